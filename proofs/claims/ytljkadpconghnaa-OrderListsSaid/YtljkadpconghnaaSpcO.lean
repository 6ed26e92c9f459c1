/- The walk of make's grown. Conditions: the ranges that each theorem states. -/
import Derived.Test.YtljkadpconghnaaSpcN
namespace Go.Proofs.Ytljkadpconghnaa
open Go.RowKit Go.Draw

theorem four_at {w : World} {b x : Nat} (h : Blk w b 3 #[.int .i64 3, .int .i64 3, .int .i64 9, .int .i64 33]) (h4 : (x : Int) < 4) :
    ∃ (m : Int), w.cell? ⟨b, x, none⟩ = some (.int .i64 m) ∧ 1 ≤ m ∧ m ≤ 33 := by
  have : x = 0 ∨ x = 1 ∨ x = 2 ∨ x = 3 := by omega
  rcases this with rfl | rfl | rfl | rfl
  · exact ⟨3, h.cell 0, by omega, by omega⟩
  · exact ⟨3, h.cell 1, by omega, by omega⟩
  · exact ⟨9, h.cell 2, by omega, by omega⟩
  · exact ⟨33, h.cell 3, by omega, by omega⟩
theorem alloc_z (A Bf : Option Addr) (a b : Nat) (S : Sp) (L : List Ch) (x : Ch) (wd n B : Nat) (z : Int) (w : World) (h : SRd w S A Bf) (hS : Chs S (x :: L)) (hB : 2 ^ S.sh = B) (hwd : ceilN wd B = x.c.length) (h1 : 1 ≤ n) (h2 : n ≤ 48) (hz : z = (n : Int)) :
    Calls Try.prog 36 #[spV S A a Bf b, incV x wd, .int .i64 z] w (RetAlloc w S L x wd n B) := by
  subst hz
  exact alloc_any A Bf a b S L x wd n B w h hS hB hwd h1 h2
def RetGrown (d base : Nat) (S : Sp) (L : List Ch) (x : Ch) (wd B : Nat) (w : World) (r : Ending) (w' : World) : Prop :=
  ∃ (S' : Sp) (gW cW gF cF : Nat) (c : List Nat) (wd' : Nat), r = .returned (.tuple #[.agg #[.int .i64 S'.sh, .slice (some ⟨gW, 0, none⟩) S'.ws.length cW, .slice (some ⟨gF, 0, none⟩) S'.fs.length cF], .agg #[.int .i64 x.q, .int .i64 x.b, .int .i64 (posI c 0), .int .i64 (lastI c), .int .i64 wd']]) ∧
    S'.sh = S.sh ∧ Chs S' (⟨x.q, x.b, c⟩ :: L) ∧ ceilN wd' B = c.length ∧ SOw w' base S' gW cW gF cF ∧ Dk w' d ∧ But [d] w w'
theorem fin_grown {Q : Ending → World → Prop} {a : Act} {W : World} {g1 g2 : Nat} {u0 u1 u2 v0 v1 v2 v3 v4 : Value} (hd : a.defers = []) (h6 : a.tmps[6]?.getD undef = .pointer (some ⟨g1, 0, none⟩)) (h7 : a.tmps[7]?.getD undef = .pointer (some ⟨g2, 0, none⟩))
    (k1 : Blk W g1 35 #[u0, u1, u2]) (k2 : Blk W g2 24 #[v0, v1, v2, v3, v4]) (hQ : Q (.returned (.tuple #[.agg #[u0, u1, u2], .agg #[v0, v1, v2, v3, v4]])) W) :
    bodyPost Try.prog Try.f26 Q Exit.ret a W := by
  have c1 := k1.cell
  have c2 := k2.cell
  exact bodyPost_ret (v := .tuple #[.agg #[u0, u1, u2], .agg #[v0, v1, v2, v3, v4]]) (by simp [results, Try.results26, go_sem, h6, h7, c1, c2]) hd hQ
set_option maxRecDepth 100000 in
set_option maxHeartbeats 4000000 in
theorem grown_any (d base gW cW gF cF : Nat) (S : Sp) (L : List Ch) (x : Ch) (wd B : Nat) (w : World) (hD : Dk w d) (hbase : d < base) (hbw : base ≤ w.heap.size) (h : SOw w base S gW cW gF cF) (hS : Chs S (x :: L)) (hB : 2 ^ S.sh = B) (hwd : ceilN wd B = x.c.length) :
    Calls Try.prog 26 #[.pointer (some ⟨d, 0, none⟩), spV S (some ⟨gW, 0, none⟩) cW (some ⟨gF, 0, none⟩) cF, incV x wd] w (RetGrown d base S L x wd B w) := by
  have hdl := hD.lt
  have hlt := h.lt
  have HS := Lib.hid hS
  have HB := Lib.hid hB
  have Hwd := Lib.hid hwd
  have hb1 := (pow_bd hS.sh).1
  rw [hB] at hb1
  clear hS hB hwd
  unfold spV incV
  go_enter Try.func26, Try.ntmps26
  go_upto_region 1 with fail
  have kS : Blk ((((w.alloc (.cells #[.int .i64 S.sh, .slice (some ⟨gW, 0, none⟩) S.ws.length cW, .slice (some ⟨gF, 0, none⟩) S.fs.length cF] 35)).alloc (.cells #[.int .i64 x.q, .int .i64 x.b, .int .i64 (posI x.c 0), .int .i64 (lastI x.c), .int .i64 wd] 24)).alloc (.cells #[.int .i64 0, .slice none 0 0, .slice none 0 0] 35)).alloc (.cells #[.int .i64 0, .int .i64 0, .int .i64 0, .int .i64 0, .int .i64 0] 24)) w.heap.size 35 #[.int .i64 S.sh, .slice (some ⟨gW, 0, none⟩) S.ws.length cW, .slice (some ⟨gF, 0, none⟩) S.fs.length cF] := Blk.alloc (Blk.alloc (Blk.alloc (Blk.new rfl) _) _) _
  have kI : Blk ((((w.alloc (.cells #[.int .i64 S.sh, .slice (some ⟨gW, 0, none⟩) S.ws.length cW, .slice (some ⟨gF, 0, none⟩) S.fs.length cF] 35)).alloc (.cells #[.int .i64 x.q, .int .i64 x.b, .int .i64 (posI x.c 0), .int .i64 (lastI x.c), .int .i64 wd] 24)).alloc (.cells #[.int .i64 0, .slice none 0 0, .slice none 0 0] 35)).alloc (.cells #[.int .i64 0, .int .i64 0, .int .i64 0, .int .i64 0, .int .i64 0] 24)) (w.heap.size + 1) 24 #[.int .i64 x.q, .int .i64 x.b, .int .i64 (posI x.c 0), .int .i64 (lastI x.c), .int .i64 wd] := Blk.alloc (Blk.alloc (Blk.new (by simp)) _) _
  have kR : Blk ((((w.alloc (.cells #[.int .i64 S.sh, .slice (some ⟨gW, 0, none⟩) S.ws.length cW, .slice (some ⟨gF, 0, none⟩) S.fs.length cF] 35)).alloc (.cells #[.int .i64 x.q, .int .i64 x.b, .int .i64 (posI x.c 0), .int .i64 (lastI x.c), .int .i64 wd] 24)).alloc (.cells #[.int .i64 0, .slice none 0 0, .slice none 0 0] 35)).alloc (.cells #[.int .i64 0, .int .i64 0, .int .i64 0, .int .i64 0, .int .i64 0] 24)) (w.heap.size + 1 + 1) 35 #[.int .i64 0, .slice none 0 0, .slice none 0 0] := Blk.alloc (Blk.new (by simp)) _
  have kQ : Blk ((((w.alloc (.cells #[.int .i64 S.sh, .slice (some ⟨gW, 0, none⟩) S.ws.length cW, .slice (some ⟨gF, 0, none⟩) S.fs.length cF] 35)).alloc (.cells #[.int .i64 x.q, .int .i64 x.b, .int .i64 (posI x.c 0), .int .i64 (lastI x.c), .int .i64 wd] 24)).alloc (.cells #[.int .i64 0, .slice none 0 0, .slice none 0 0] 35)).alloc (.cells #[.int .i64 0, .int .i64 0, .int .i64 0, .int .i64 0, .int .i64 0] 24)) (w.heap.size + 1 + 1 + 1) 24 #[.int .i64 0, .int .i64 0, .int .i64 0, .int .i64 0, .int .i64 0] := Blk.new (by simp)
  have hEW : Ext w ((((w.alloc (.cells #[.int .i64 S.sh, .slice (some ⟨gW, 0, none⟩) S.ws.length cW, .slice (some ⟨gF, 0, none⟩) S.fs.length cF] 35)).alloc (.cells #[.int .i64 x.q, .int .i64 x.b, .int .i64 (posI x.c 0), .int .i64 (lastI x.c), .int .i64 wd] 24)).alloc (.cells #[.int .i64 0, .slice none 0 0, .slice none 0 0] 35)).alloc (.cells #[.int .i64 0, .int .i64 0, .int .i64 0, .int .i64 0, .int .i64 0] 24)) := by (repeat (first | (with_reducible exact Ext.refl _) | assumption | (with_reducible refine Ext.alloc ?_ _) | (with_reducible refine Ext.drew ?_) | (with_reducible refine Ext.drewL ?_) | refine Ext.trans ?_ (by assumption)))
  generalize ((((w.alloc (.cells #[.int .i64 S.sh, .slice (some ⟨gW, 0, none⟩) S.ws.length cW, .slice (some ⟨gF, 0, none⟩) S.fs.length cF] 35)).alloc (.cells #[.int .i64 x.q, .int .i64 x.b, .int .i64 (posI x.c 0), .int .i64 (lastI x.c), .int .i64 wd] 24)).alloc (.cells #[.int .i64 0, .slice none 0 0, .slice none 0 0] 35)).alloc (.cells #[.int .i64 0, .int .i64 0, .int .i64 0, .int .i64 0, .int .i64 0] 24)) = W at kS kI kR kQ hEW ⊢
  obtain ⟨b0, hb0⟩ : ∃ b0, w.heap.size = b0 := ⟨_, rfl⟩
  rw [hb0] at kS kI kR kQ ⊢
  have hb0a : b0 ≤ w.heap.size := by omega
  have hb0b : w.heap.size ≤ b0 := by omega
  clear hb0
  have lQ := kQ.lt
  have nd0 : b0 ∉ [d] := by simp; omega
  have nd1 : b0 + 1 ∉ [d] := by simp; omega
  have nd2 : b0 + 1 + 1 ∉ [d] := by simp; omega
  have nd3 : b0 + 1 + 1 + 1 ∉ [d] := by simp; omega
  have ndW : gW ∉ [d] := by simp; omega
  have ndF : gF ∉ [d] := by simp; omega
  go_wp2_with fail
  go_at_call 25
  refine (next_any d 4 _ (hD.ext hEW) (by omega) (by omega)).mono ?_
  rintro e w1 ⟨r, rfl, hr4, hD1, hB1⟩
  go_wp2_with fail
  have hEa := Ext.alloc (Ext.refl w1) (.cells #[.int .i64 3, .int .i64 3, .int .i64 9, .int .i64 33] 3)
  go_at_call 25
  refine (next_any d 4 _ (hD1.ext hEa) (by omega) (by omega)).mono ?_
  rintro e w2 ⟨i, rfl, hi4, hD2, hB2⟩
  have hz1 := hB1.size
  have hz0 := hEW.size_le
  have k4 := (Blk.new rfl : Blk (w1.alloc (.cells #[.int .i64 3, .int .i64 3, .int .i64 9, .int .i64 33] 3)) w1.heap.size 3 #[.int .i64 3, .int .i64 3, .int .i64 9, .int .i64 33]).but hB2 (by simp; omega)
  obtain ⟨m, hm, hm1, hm2⟩ := four_at k4 hi4
  have hml := cell_lt hm
  go_wp2_with fail
  go_at_call 25
  refine (next_any d m _ hD2 (by omega) (by omega)).mono ?_
  rintro e w3 ⟨t, rfl, htm, hD3, hB3⟩
  have hBW : But [d] w w3 := (((hEW.but _).trans hB1).trans ((hEa.but _).trans hB2)).trans hB3
  have hBV : But [d] W w3 := (hB1.trans ((hEa.but _).trans hB2)).trans hB3
  clear k4 hm hml hB1 hB2 hEa hD1 hD2 hEW
  replace kS := kS.but hBV nd0
  replace kI := kI.but hBV nd1
  replace kR := kR.but hBV nd2
  replace kQ := kQ.but hBV nd3
  have hO := h.but hBW ndW ndF
  have hzw := hBW.size
  have cS := kS.cell
  have lS := kS.lt
  have cI := kI.cell
  have lI := kI.lt
  clear hBV hB3 lQ
  go_wp2_with fail
  go_at_call 36
  obtain ⟨n, hn⟩ : ∃ n, 1 + r + t = n := ⟨_, rfl⟩
  have hn1 : n ≤ 1 + r + t := by omega
  have hn2 : 1 + r + t ≤ n := by omega
  clear hn
  refine (alloc_z _ _ cW cF S L x wd n B _ _ hO.rd HS.out HB.out Hwd.out (by omega) (by omega) (by omega)).mono ?_
  have lQ := kQ.lt
  obtain ⟨g3, hg3⟩ : ∃ g, b0 + 1 + 1 + 1 = g := ⟨_, rfl⟩
  obtain ⟨g2, hg2⟩ : ∃ g, b0 + 1 + 1 = g := ⟨_, rfl⟩
  obtain ⟨g1, hg1⟩ : ∃ g, b0 + 1 = g := ⟨_, rfl⟩
  have q1 : ¬ (b0 = g2) := by omega
  have q2 : ¬ (b0 = g3) := by omega
  have q3 : ¬ (g1 = g2) := by omega
  have q4 : ¬ (g1 = g3) := by omega
  have m4 : g2 ≠ g3 := by omega
  have z1 : b0 < g1 := by omega
  have z2 : g1 < g2 := by omega
  have z3 : g2 < g3 := by omega
  rw [hg3] at kQ lQ
  rw [hg2] at kR
  rw [hg1] at kI cI lI
  rw [hg3, hg2, hg1]
  clear hg3 hg2 hg1 nd1 nd2 nd3
  rintro e w4 (⟨rfl, hE4⟩ | ⟨gW', cW', gF', cF', fs, c, rfl, hfl, hcc, hpre, hC, hO4, hE4⟩)
  · have hE5 := hE4.trans (Ext.alloc (Ext.alloc (Ext.refl w4) (.cells #[.int .i64 0, .slice none 0 0, .slice none 0 0] 35)) (.cells #[.int .i64 0, .int .i64 0, .int .i64 0, .int .i64 0, .int .i64 0] 24))
    have kS4 := kS.ext hE5
    have kI4 := kI.ext hE5
    have kR4 := kR.ext hE5
    have kQ4 := kQ.ext hE5
    clear cS lS cI lI kS kI kR kQ lQ hE4
    go_wp2_with fail
    generalize ((w4.alloc (.cells #[.int .i64 0, .slice none 0 0, .slice none 0 0] 35)).alloc (.cells #[.int .i64 0, .int .i64 0, .int .i64 0, .int .i64 0, .int .i64 0] 24)) = w5 at *
    have cS4 := kS4.cell
    have lS4 := kS4.lt
    have cI4 := kI4.cell
    have lI4 := kI4.lt
    have cR4 := kR4.cell
    have fR4 := kR4.froz
    have lR4 := kR4.lt
    have cQ4 := kQ4.cell
    have fQ4 := kQ4.froz
    have lQ4 := kQ4.lt
    refine wp_region_but [g2, g3] [(true, 0), (true, 1), (false, 2), (false, 3)] Try.mixed (by kernel_rfl) (by simp only [pick, List.filterMap_cons, List.filterMap_nil, List.getElem?_toArray, List.getElem?_cons_succ, List.getElem?_cons_zero, Option.map_some]; rfl) ?_
    intro hx hy
    repeat (first
      | (refine wpL_takeB hx (v := ?_) (by rfl) (fun _ hc => ?_) ?_
         rotate_left
         focus (go_simp; (try go_ints); exact rfl)
         simp only [Act.put, List.setIfInBounds_toArray, List.set_cons_zero, List.set_cons_succ])
      | (refine wpL_skip (by rfl) ?_; simp only [Act.put, List.setIfInBounds_toArray, List.set_cons_zero, List.set_cons_succ])
      | (refine wpL_call (by rfl) (fun K hK => ?_); go_simp; (first | (refine hK _ _ ?_ ?_; (focus ((repeat (first | (with_reducible exact But.refl _ _) | assumption | (with_reducible refine But.drew ?_) | (with_reducible refine But.drewL ?_) | (with_reducible refine But.setCell ?_ ?_ _; rotate_left; (focus (simp; done))) | (with_reducible refine But.setCellL ?_ ?_; rotate_left; (focus (simp; done))) | (with_reducible refine But.alloc2 ?_ ?_; rotate_left; (focus (simp [World.setCell]; done))) | (with_reducible refine But.allocL ?_ ?_ ?_; rotate_left; (focus (simp; done)); (focus (simp; done))) | (with_reducible refine But.alloc ?_ _))); done))) | (refine hK undef _ ?_ ?_; (focus ((repeat (first | (with_reducible exact But.refl _ _) | assumption | (with_reducible refine But.drew ?_) | (with_reducible refine But.drewL ?_) | (with_reducible refine But.setCell ?_ ?_ _; rotate_left; (focus (simp; done))) | (with_reducible refine But.setCellL ?_ ?_; rotate_left; (focus (simp; done))) | (with_reducible refine But.alloc2 ?_ ?_; rotate_left; (focus (simp [World.setCell]; done))) | (with_reducible refine But.allocL ?_ ?_ ?_; rotate_left; (focus (simp; done)); (focus (simp; done))) | (with_reducible refine But.alloc ?_ _))); done)))); clear hK; intro hr; replace hx := hx.trans hr; clear hr; try simp only [Act.put, List.setIfInBounds_toArray, List.set_cons_zero, List.set_cons_succ])
      | (refine wpL_call (by rfl) (fun K hK => ?_); have hcy := Ext.cell hy; have hfy := Ext.froz hy; go_simp; (first | (refine hK _ _ ?_ ?_; (focus ((repeat (first | (with_reducible exact But.refl _ _) | assumption | (with_reducible refine But.drew ?_) | (with_reducible refine But.drewL ?_) | (with_reducible refine But.setCell ?_ ?_ _; rotate_left; (focus (simp; done))) | (with_reducible refine But.setCellL ?_ ?_; rotate_left; (focus (simp; done))) | (with_reducible refine But.alloc2 ?_ ?_; rotate_left; (focus (simp [World.setCell]; done))) | (with_reducible refine But.allocL ?_ ?_ ?_; rotate_left; (focus (simp; done)); (focus (simp; done))) | (with_reducible refine But.alloc ?_ _))); done))) | (refine hK undef _ ?_ ?_; (focus ((repeat (first | (with_reducible exact But.refl _ _) | assumption | (with_reducible refine But.drew ?_) | (with_reducible refine But.drewL ?_) | (with_reducible refine But.setCell ?_ ?_ _; rotate_left; (focus (simp; done))) | (with_reducible refine But.setCellL ?_ ?_; rotate_left; (focus (simp; done))) | (with_reducible refine But.alloc2 ?_ ?_; rotate_left; (focus (simp [World.setCell]; done))) | (with_reducible refine But.allocL ?_ ?_ ?_; rotate_left; (focus (simp; done)); (focus (simp; done))) | (with_reducible refine But.alloc ?_ _))); done)))); clear hK; intro hr; replace hx := hx.trans hr; clear hr; try simp only [Act.put, List.setIfInBounds_toArray, List.set_cons_zero, List.set_cons_succ]))
    refine wpL_end ?_
    go_wp2
    have p1 := ((((((((kR4.set_ 0 (.int .i64 S.sh)).set_ 1 (.slice (some ⟨gW, 0, none⟩) S.ws.length cW)).set_ 2 (.slice (some ⟨gF, 0, none⟩) S.fs.length cF)).far (p := ⟨g3, 0, none⟩) m4 (.int .i64 x.q)).far (p := ⟨g3, 1, none⟩) m4 (.int .i64 x.b)).far (p := ⟨g3, 2, none⟩) m4 (.int .i64 (posI x.c 0))).far (p := ⟨g3, 3, none⟩) m4 (.int .i64 (lastI x.c))).far (p := ⟨g3, 4, none⟩) m4 (.int .i64 wd)).drew
    have p2 := ((((((((kQ4.far (p := ⟨g2, 0, none⟩) m4.symm (.int .i64 S.sh)).far (p := ⟨g2, 1, none⟩) m4.symm (.slice (some ⟨gW, 0, none⟩) S.ws.length cW)).far (p := ⟨g2, 2, none⟩) m4.symm (.slice (some ⟨gF, 0, none⟩) S.fs.length cF)).set_ 0 (.int .i64 x.q)).set_ 1 (.int .i64 x.b)).set_ 2 (.int .i64 (posI x.c 0))).set_ 3 (.int .i64 (lastI x.c))).set_ 4 (.int .i64 wd)).drew
    simp only [List.setIfInBounds_toArray, List.set_cons_zero, List.set_cons_succ] at p1 p2
    have hDk := hD3.ext hE5
    have hBk := hBW.trans (hE5.but _)
    have hO9 := hO.ext hE5
    refine fin_grown rfl rfl rfl p1 p2 ⟨S, gW, cW, gF, cF, x.c, wd, rfl, rfl, HS.out, Hwd.out, ?_, ?_, ?_⟩
    · refine SOw.ext ?_ (Ext.drew (Ext.refl _))
      repeat (with_reducible refine SOw.far ?_ (by simp; omega) (by simp; omega) _)
      exact hO9
    · refine Dk.ext ?_ (Ext.drew (Ext.refl _))
      repeat (with_reducible refine Dk.far ?_ (by simp; omega) _)
      exact hDk
    · refine But.drew ?_
      repeat (with_reducible refine But.fresh ?_ (by simp; omega) _)
      exact hBk
  · have hcm := ceil_mul (wd := wd + n) (n := c.length) (B := B) (by omega) (by omega)
    have hE5 := hE4.trans (Ext.alloc (Ext.alloc (Ext.refl w4) (.cells #[.int .i64 S.sh, .slice (some ⟨gW', 0, none⟩) S.ws.length cW', .slice (some ⟨gF', 0, none⟩) fs.length cF'] 35)) (.cells #[.int .i64 x.q, .int .i64 x.b, .int .i64 (posI c 0), .int .i64 (lastI c), .int .i64 ((wd : Int) + n)] 24))
    have hO5 := (hO4.ext (Ext.alloc (Ext.alloc (Ext.refl w4) (.cells #[.int .i64 S.sh, .slice (some ⟨gW', 0, none⟩) S.ws.length cW', .slice (some ⟨gF', 0, none⟩) fs.length cF'] 35)) (.cells #[.int .i64 x.q, .int .i64 x.b, .int .i64 (posI c 0), .int .i64 (lastI c), .int .i64 ((wd : Int) + n)] 24))).base_ (b := base) (by omega)
    have kN1 : Blk ((w4.alloc (.cells #[.int .i64 S.sh, .slice (some ⟨gW', 0, none⟩) S.ws.length cW', .slice (some ⟨gF', 0, none⟩) fs.length cF'] 35)).alloc (.cells #[.int .i64 x.q, .int .i64 x.b, .int .i64 (posI c 0), .int .i64 (lastI c), .int .i64 ((wd : Int) + n)] 24)) w4.heap.size 35 #[.int .i64 S.sh, .slice (some ⟨gW', 0, none⟩) S.ws.length cW', .slice (some ⟨gF', 0, none⟩) fs.length cF'] := Blk.alloc (Blk.new rfl) _
    have kN2 : Blk ((w4.alloc (.cells #[.int .i64 S.sh, .slice (some ⟨gW', 0, none⟩) S.ws.length cW', .slice (some ⟨gF', 0, none⟩) fs.length cF'] 35)).alloc (.cells #[.int .i64 x.q, .int .i64 x.b, .int .i64 (posI c 0), .int .i64 (lastI c), .int .i64 ((wd : Int) + n)] 24)) (w4.heap.size + 1) 24 #[.int .i64 x.q, .int .i64 x.b, .int .i64 (posI c 0), .int .i64 (lastI c), .int .i64 ((wd : Int) + n)] := Blk.new (by simp)
    have lQ4 := (kQ.ext hE4).lt
    have kR4 := kR.ext hE5
    have kQ4 := kQ.ext hE5
    have Hfl := Lib.hid hfl
    have Hcc := Lib.hid hcc
    have hDk := hD3.ext hE5
    have hBk := hBW.trans (hE5.but _)
    clear cS lS kS kR kQ lQ kI cI lI hfl hcc hE4 hE5 hD3 hBW hO4 hO
    go_upto_region 5 with fail
    generalize (w4.alloc (.cells #[.int .i64 S.sh, .slice (some ⟨gW', 0, none⟩) S.ws.length cW', .slice (some ⟨gF', 0, none⟩) fs.length cF'] 35)).alloc (.cells #[.int .i64 x.q, .int .i64 x.b, .int .i64 (posI c 0), .int .i64 (lastI c), .int .i64 ((wd : Int) + n)] 24) = w5 at *
    obtain ⟨h1, hh1⟩ : ∃ h1, w4.heap.size = h1 := ⟨_, rfl⟩
    obtain ⟨h2, hh2⟩ : ∃ h2, h1 + 1 = h2 := ⟨_, rfl⟩
    rw [hh1] at kN1 kN2 lQ4 ⊢
    rw [hh2] at kN2 ⊢
    have y1 : g3 < h1 := by omega
    have y2 : h1 < h2 := by omega
    clear hh1 hh2 lQ4
    have cN1 := kN1.cell
    have lN1 := kN1.lt
    go_wp2_with fail
    go_at_call 37
    refine (init_any _ _ cW' cF' ⟨S.sh, S.ws, fs⟩ (⟨x.q, x.b, c⟩ :: L) ⟨x.q, x.b, c⟩ B wd r t _ hO5.rd hC List.mem_cons_self HB.out (show wd + (r + t) < c.length * B by omega) (by omega) (by omega)).mono ?_
    rintro e w6 ⟨gW2, cW2, gF2, cF2, ws, rfl, hwl, hC6, hO6, hE6⟩
    have hlW := hO6.lt
    replace hO6 := hO6.base_ (b := base) (by have := hBk.size; omega)
    have lN2 := kN2.lt
    have lR5 := kR4.lt
    have Hwl := Lib.hid hwl
    clear hwl
    replace kN1 := kN1.ext hE6
    replace kN2 := kN2.ext hE6
    replace kR4 := kR4.ext hE6
    replace kQ4 := kQ4.ext hE6
    replace hDk := hDk.ext hE6
    replace hBk := hBk.trans (hE6.but _)
    have fN1 := kN1.froz
    have cN1 := kN1.cell
    have lN1 := kN1.lt
    clear hE6 hC hO5
    go_upto_region 6 with fail
    have t1 : h2 ≠ h1 := by omega
    have t2 : g2 ≠ h1 := by omega
    have t3 : g3 ≠ h1 := by omega
    have kN1 := (((kN1.set_ 0 (.int .i64 S.sh)).set_ 1 (.slice (some ⟨gW2, 0, none⟩) ws.length cW2)).set_ 2 (.slice (some ⟨gF2, 0, none⟩) fs.length cF2))
    have kN2 := (((kN2.far (p := ⟨h1, 0, none⟩) t1 (.int .i64 S.sh)).far (p := ⟨h1, 1, none⟩) t1 (.slice (some ⟨gW2, 0, none⟩) ws.length cW2)).far (p := ⟨h1, 2, none⟩) t1 (.slice (some ⟨gF2, 0, none⟩) fs.length cF2))
    have kR4 := (((kR4.far (p := ⟨h1, 0, none⟩) t2 (.int .i64 S.sh)).far (p := ⟨h1, 1, none⟩) t2 (.slice (some ⟨gW2, 0, none⟩) ws.length cW2)).far (p := ⟨h1, 2, none⟩) t2 (.slice (some ⟨gF2, 0, none⟩) fs.length cF2))
    have kQ4 := (((kQ4.far (p := ⟨h1, 0, none⟩) t3 (.int .i64 S.sh)).far (p := ⟨h1, 1, none⟩) t3 (.slice (some ⟨gW2, 0, none⟩) ws.length cW2)).far (p := ⟨h1, 2, none⟩) t3 (.slice (some ⟨gF2, 0, none⟩) fs.length cF2))
    have hO6 := (SOw.far (SOw.far (SOw.far hO6 (p := ⟨h1, 0, none⟩) (by simp; omega) (by simp; omega) (.int .i64 S.sh)) (p := ⟨h1, 1, none⟩) (by simp; omega) (by simp; omega) (.slice (some ⟨gW2, 0, none⟩) ws.length cW2)) (p := ⟨h1, 2, none⟩) (by simp; omega) (by simp; omega) (.slice (some ⟨gF2, 0, none⟩) fs.length cF2))
    have hDk := (Dk.far (Dk.far (Dk.far hDk (p := ⟨h1, 0, none⟩) (by simp; omega) (.int .i64 S.sh)) (p := ⟨h1, 1, none⟩) (by simp; omega) (.slice (some ⟨gW2, 0, none⟩) ws.length cW2)) (p := ⟨h1, 2, none⟩) (by simp; omega) (.slice (some ⟨gF2, 0, none⟩) fs.length cF2))
    have hBk := (But.fresh (But.fresh (But.fresh hBk (p := ⟨h1, 0, none⟩) (by simp; omega) (.int .i64 S.sh)) (p := ⟨h1, 1, none⟩) (by simp; omega) (.slice (some ⟨gW2, 0, none⟩) ws.length cW2)) (p := ⟨h1, 2, none⟩) (by simp; omega) (.slice (some ⟨gF2, 0, none⟩) fs.length cF2))
    simp only [List.setIfInBounds_toArray, List.set_cons_zero, List.set_cons_succ] at kN1
    generalize (((w6.setCell ⟨h1, 0, none⟩ (.int .i64 S.sh)).setCell ⟨h1, 1, none⟩ (.slice (some ⟨gW2, 0, none⟩) ws.length cW2)).setCell ⟨h1, 2, none⟩ (.slice (some ⟨gF2, 0, none⟩) fs.length cF2)) = w7 at *
    clear fN1 cN1 lN1
    have cN1 := kN1.cell
    have lN1 := kN1.lt
    have cN2 := kN2.cell
    have lN2 := kN2.lt
    have cR4 := kR4.cell
    have fR4 := kR4.froz
    have lR4 := kR4.lt
    have cQ4 := kQ4.cell
    have fQ4 := kQ4.froz
    have lQ4 := kQ4.lt
    have r1 : ¬ (h1 = g2) := by omega
    have r2 : ¬ (h1 = g3) := by omega
    have r3 : ¬ (h2 = g2) := by omega
    have r4 : ¬ (h2 = g3) := by omega
    refine wp_region_but [g2, g3] [(true, 0), (true, 1), (false, 2), (false, 3)] Try.mixed (by kernel_rfl) (by simp only [pick, List.filterMap_cons, List.filterMap_nil, List.getElem?_toArray, List.getElem?_cons_succ, List.getElem?_cons_zero, Option.map_some]; rfl) ?_
    intro hx hy
    repeat (first
      | (refine wpL_takeB hx (v := ?_) (by rfl) (fun _ hc => ?_) ?_
         rotate_left
         focus (go_simp; (try go_ints); exact rfl)
         simp only [Act.put, List.setIfInBounds_toArray, List.set_cons_zero, List.set_cons_succ])
      | (refine wpL_skip (by rfl) ?_; simp only [Act.put, List.setIfInBounds_toArray, List.set_cons_zero, List.set_cons_succ])
      | (refine wpL_call (by rfl) (fun K hK => ?_); go_simp; (first | (refine hK _ _ ?_ ?_; (focus ((repeat (first | (with_reducible exact But.refl _ _) | assumption | (with_reducible refine But.drew ?_) | (with_reducible refine But.drewL ?_) | (with_reducible refine But.setCell ?_ ?_ _; rotate_left; (focus (simp; done))) | (with_reducible refine But.setCellL ?_ ?_; rotate_left; (focus (simp; done))) | (with_reducible refine But.alloc2 ?_ ?_; rotate_left; (focus (simp [World.setCell]; done))) | (with_reducible refine But.allocL ?_ ?_ ?_; rotate_left; (focus (simp; done)); (focus (simp; done))) | (with_reducible refine But.alloc ?_ _))); done))) | (refine hK undef _ ?_ ?_; (focus ((repeat (first | (with_reducible exact But.refl _ _) | assumption | (with_reducible refine But.drew ?_) | (with_reducible refine But.drewL ?_) | (with_reducible refine But.setCell ?_ ?_ _; rotate_left; (focus (simp; done))) | (with_reducible refine But.setCellL ?_ ?_; rotate_left; (focus (simp; done))) | (with_reducible refine But.alloc2 ?_ ?_; rotate_left; (focus (simp [World.setCell]; done))) | (with_reducible refine But.allocL ?_ ?_ ?_; rotate_left; (focus (simp; done)); (focus (simp; done))) | (with_reducible refine But.alloc ?_ _))); done)))); clear hK; intro hr; replace hx := hx.trans hr; clear hr; try simp only [Act.put, List.setIfInBounds_toArray, List.set_cons_zero, List.set_cons_succ])
      | (refine wpL_call (by rfl) (fun K hK => ?_); have hcy := Ext.cell hy; have hfy := Ext.froz hy; go_simp; (first | (refine hK _ _ ?_ ?_; (focus ((repeat (first | (with_reducible exact But.refl _ _) | assumption | (with_reducible refine But.drew ?_) | (with_reducible refine But.drewL ?_) | (with_reducible refine But.setCell ?_ ?_ _; rotate_left; (focus (simp; done))) | (with_reducible refine But.setCellL ?_ ?_; rotate_left; (focus (simp; done))) | (with_reducible refine But.alloc2 ?_ ?_; rotate_left; (focus (simp [World.setCell]; done))) | (with_reducible refine But.allocL ?_ ?_ ?_; rotate_left; (focus (simp; done)); (focus (simp; done))) | (with_reducible refine But.alloc ?_ _))); done))) | (refine hK undef _ ?_ ?_; (focus ((repeat (first | (with_reducible exact But.refl _ _) | assumption | (with_reducible refine But.drew ?_) | (with_reducible refine But.drewL ?_) | (with_reducible refine But.setCell ?_ ?_ _; rotate_left; (focus (simp; done))) | (with_reducible refine But.setCellL ?_ ?_; rotate_left; (focus (simp; done))) | (with_reducible refine But.alloc2 ?_ ?_; rotate_left; (focus (simp [World.setCell]; done))) | (with_reducible refine But.allocL ?_ ?_ ?_; rotate_left; (focus (simp; done)); (focus (simp; done))) | (with_reducible refine But.alloc ?_ _))); done)))); clear hK; intro hr; replace hx := hx.trans hr; clear hr; try simp only [Act.put, List.setIfInBounds_toArray, List.set_cons_zero, List.set_cons_succ]))
    refine wpL_end ?_
    go_wp2
    have p1 := ((((((((kR4.set_ 0 (.int .i64 S.sh)).set_ 1 (.slice (some ⟨gW2, 0, none⟩) ws.length cW2)).set_ 2 (.slice (some ⟨gF2, 0, none⟩) fs.length cF2)).far (p := ⟨g3, 0, none⟩) m4 (.int .i64 x.q)).far (p := ⟨g3, 1, none⟩) m4 (.int .i64 x.b)).far (p := ⟨g3, 2, none⟩) m4 (.int .i64 (posI c 0))).far (p := ⟨g3, 3, none⟩) m4 (.int .i64 (lastI c))).far (p := ⟨g3, 4, none⟩) m4 (.int .i64 ((wd : Int) + n))).drew
    have p2 := ((((((((kQ4.far (p := ⟨g2, 0, none⟩) m4.symm (.int .i64 S.sh)).far (p := ⟨g2, 1, none⟩) m4.symm (.slice (some ⟨gW2, 0, none⟩) ws.length cW2)).far (p := ⟨g2, 2, none⟩) m4.symm (.slice (some ⟨gF2, 0, none⟩) fs.length cF2)).set_ 0 (.int .i64 x.q)).set_ 1 (.int .i64 x.b)).set_ 2 (.int .i64 (posI c 0))).set_ 3 (.int .i64 (lastI c))).set_ 4 (.int .i64 ((wd : Int) + n))).drew
    simp only [List.setIfInBounds_toArray, List.set_cons_zero, List.set_cons_succ] at p1 p2
    refine fin_grown rfl rfl rfl p1 p2 ⟨⟨S.sh, ws, fs⟩, gW2, cW2, gF2, cF2, c, wd + n, by rw [Int.natCast_add], rfl, hC6, Hcc.out, ?_, ?_, ?_⟩
    · refine SOw.ext ?_ (Ext.drew (Ext.refl _))
      repeat (with_reducible refine SOw.far ?_ (by simp; omega) (by simp; omega) _)
      exact hO6
    · refine Dk.ext ?_ (Ext.drew (Ext.refl _))
      repeat (with_reducible refine Dk.far ?_ (by simp; omega) _)
      exact hDk
    · refine But.drew ?_
      repeat (with_reducible refine But.fresh ?_ (by simp; omega) _)
      exact hBk
end Go.Proofs.Ytljkadpconghnaa
