/- The walk of make.Space. Conditions: the ranges that each theorem states. -/
import Derived.Test.YtljkadpconghnaaSpcP
namespace Go.Proofs.Ytljkadpconghnaa
open Go.RowKit Go.Draw

theorem new_z (z1 z2 : Int) (w : World) (h1 : 3 ≤ z1 ∧ z1 ≤ 8) (h2 : 2 ≤ z2 ∧ z2 ≤ 64) : Calls Try.prog 24 #[.int .i64 z1, .int .i64 z2] w fun r w' => ∃ (S : Sp) (gW cW gF cF : Nat), r = .returned (.tuple #[.agg #[.int .i64 S.sh, .slice (some ⟨gW, 0, none⟩) S.ws.length cW, .slice (some ⟨gF, 0, none⟩) S.fs.length cF], .int .i64 0]) ∧ Chs S [] ∧ SOw w' w.heap.size S gW cW gF cF ∧ Ext w w' := by
  obtain ⟨sh, rfl⟩ : ∃ sh : Nat, z1 = (sh : Int) := ⟨z1.toNat, by omega⟩
  obtain ⟨n, rfl⟩ : ∃ n : Nat, z2 = (n : Int) := ⟨z2.toNat, by omega⟩
  refine (new_any sh n w (by omega) (by omega)).mono ?_
  rintro e w' ⟨gW, cW, gF, cF, rfl, hO, hE⟩
  exact ⟨newSp sh n, gW, cW, gF, cF, rfl, newSp_chs (by omega) (by omega), hO, hE⟩
theorem own_over {w w' : World} {base n size : Nat} {v : Value} {e : TypeId} {xs : List Value} {S : List Nat} (h : w.ownsRow base e size v n xs) (he : But S w w') (hS : ∀ x ∈ S, x < base) : w'.ownsRow base e size v n xs :=
  own_but h he (fun g hg hm => by have := (World.ownsRow.lt h g hg).1; have := hS g hm; omega)
theorem own_away {w : World} {base n size : Nat} {v : Value} {e : TypeId} {xs : List Value} (h : w.ownsRow base e size v n xs) {p : Addr} (hp : v.ownBlock ≠ some p.block) (u : Value) : (w.setCell p u).ownsRow base e size v n xs :=
  own_but h (S := [p.block]) (But.setCell (But.refl _ _) (by simp) u) (fun g hg hm => hp (by rw [hg, List.mem_singleton.1 hm]))
theorem own_own_ne {w : World} {base n size base' g' n' c' size' : Nat} {v : Value} {e e' : TypeId} {xs xs' : List Value} (h : w.ownsRow base e size v n xs) (h' : w.ownsRow base' e' size' (.slice (some ⟨g', 0, none⟩) n' c') n' xs') (hne : e ≠ e') : v.ownBlock ≠ some g' := by
  intro hv
  rcases h.2 with ⟨h0, _⟩ | ⟨k, cap, cur, hv2, _, hg, _⟩
  · subst h0; simp [Value.ownBlock] at hv
  · subst hv2
    simp only [Value.ownBlock, Option.some.injEq] at hv
    subst hv
    rcases h'.2 with ⟨h0, _⟩ | ⟨k', cap', cur', hv', _, hg', _⟩
    · simp at h0
    · simp only [Value.slice.injEq, Option.some.injEq, Addr.mk.injEq, and_true, true_and] at hv'
      obtain ⟨rfl, _⟩ := hv'
      rw [hg] at hg'
      injection hg' with hg'
      injection hg' with _ ht
      exact hne ht
theorem ceil0 {B : Nat} (hB : 8 ≤ B) : ceilN 0 B = 0 := by
  unfold ceilN
  exact Nat.div_eq_of_lt (by omega)
theorem But.over {S T : List Nat} {a b c : World} (h : But S a b) (k : But T b c) (hT : ∀ x ∈ T, a.heap.size ≤ x) : But S a c :=
  ⟨k.os.trans h.os, k.tape.trans h.tape, k.output.trans h.output, Nat.le_trans h.size k.size, fun i hi hs => (k.block i (Nat.lt_of_lt_of_le hi h.size) (fun hm => by have := hT i hm; omega)).trans (h.block i hi hs)⟩
theorem not_toList {o : Option Nat} {g : Nat} (h : o ≠ some g) : g ∉ o.toList := fun hm => h (by simpa using hm)
set_option maxRecDepth 100000 in
set_option maxHeartbeats 8000000 in
theorem space_any (d : Nat) (w : World) (hD : Dk w d) : Calls Try.prog 13 #[.pointer (some ⟨d, 0, none⟩)] w (RetSpace d w) := by
  have hdl := hD.lt
  go_enter Try.func13, Try.ntmps13
  go_upto_region 1 with fail
  have kR : Blk (w.alloc (.cells #[.int .i64 0, .slice none 0 0, .slice none 0 0] 35)) w.heap.size 35 #[.int .i64 0, .slice none 0 0, .slice none 0 0] := Blk.new rfl
  have hE0 : Ext w (w.alloc (.cells #[.int .i64 0, .slice none 0 0, .slice none 0 0] 35)) := by (repeat (first | (with_reducible exact Ext.refl _) | assumption | (with_reducible refine Ext.alloc ?_ _) | (with_reducible refine Ext.drew ?_) | (with_reducible refine Ext.drewL ?_) | refine Ext.trans ?_ (by assumption)))
  generalize w.alloc (.cells #[.int .i64 0, .slice none 0 0, .slice none 0 0] 35) = W at kR hE0 ⊢
  obtain ⟨b0, hb0⟩ : ∃ b0, w.heap.size = b0 := ⟨_, rfl⟩
  rw [hb0] at kR ⊢
  have hb0a : b0 ≤ w.heap.size := by omega
  have hb0b : w.heap.size ≤ b0 := by omega
  clear hb0
  have nd0 : b0 ∉ [d] := by simp; omega
  have lR := kR.lt
  go_wp2_with fail
  go_at_call 25
  refine (next_any d 2 _ (hD.ext hE0) (by omega) (by omega)).mono ?_
  rintro e w1 ⟨x1, rfl, hx1, hD1, hB1⟩
  go_wp2_with fail
  go_at_call 25
  refine (next_any d 9 _ hD1 (by omega) (by omega)).mono ?_
  rintro e w2 ⟨x2, rfl, hx2, hD2, hB2⟩
  have hBw := ((hE0.but _).trans hB1).trans hB2
  replace kR := kR.but (hB1.trans hB2) nd0
  go_wp2_with fail
  go_at_call 24
  refine (new_z _ _ _ (by omega) (by omega)).mono ?_
  rintro e w3 ⟨S, gW, cW, gF, cF, rfl, hS, hO, hE3⟩
  have hz2 := hBw.size
  have hz3 := hE3.size_le
  have hE4 := hE3.trans (Ext.alloc (Ext.refl w3) (.cells #[.int .i64 S.sh, .slice (some ⟨gW, 0, none⟩) S.ws.length cW, .slice (some ⟨gF, 0, none⟩) S.fs.length cF] 35))
  have hO4 := (hO.ext (Ext.alloc (Ext.refl w3) (.cells #[.int .i64 S.sh, .slice (some ⟨gW, 0, none⟩) S.ws.length cW, .slice (some ⟨gF, 0, none⟩) S.fs.length cF] 35))).base_ (b := d + 1) (by omega)
  have kS : Blk (w3.alloc (.cells #[.int .i64 S.sh, .slice (some ⟨gW, 0, none⟩) S.ws.length cW, .slice (some ⟨gF, 0, none⟩) S.fs.length cF] 35)) w3.heap.size 35 #[.int .i64 S.sh, .slice (some ⟨gW, 0, none⟩) S.ws.length cW, .slice (some ⟨gF, 0, none⟩) S.fs.length cF] := Blk.new rfl
  have lR3 := (kR.ext hE3).lt
  replace kR := kR.ext hE4
  have hD4 := hD2.ext hE4
  have hBw := hBw.trans (hE4.but _)
  obtain ⟨B, hB⟩ : ∃ B, 2 ^ S.sh = B := ⟨_, rfl⟩
  have hb1 := (pow_bd hS.sh).1
  rw [hB] at hb1
  have hs8 := hS.sh
  obtain ⟨sh, hsh⟩ : ∃ sh, S.sh = sh := ⟨_, rfl⟩
  have hsB : 2 ^ sh = B := by rw [← hsh]; exact hB
  have HsB := Lib.hid hsB
  have Hsh := Lib.hid hsh
  have HS := Lib.hid hS
  clear hB1 hB2 hE0 hE3 hE4 hO hD hD1 hD2 hB hsh hsB hS hs8
  go_upto_region 3 with fail
  generalize w3.alloc (.cells #[.int .i64 S.sh, .slice (some ⟨gW, 0, none⟩) S.ws.length cW, .slice (some ⟨gF, 0, none⟩) S.fs.length cF] 35) = w4 at *
  obtain ⟨bS, hbS⟩ : ∃ bS, w3.heap.size = bS := ⟨_, rfl⟩
  rw [hbS] at kS lR3 hz3 ⊢
  clear hbS
  have hdS : d < bS := by omega
  have ndS : bS ∉ [d] := by simp; omega
  go_wp2_with fail
  go_at_call 25
  refine (next_any d 5 _ hD4 (by omega) (by omega)).mono ?_
  rintro e w5 ⟨k0, rfl, hk0, hD5, hB5⟩
  have hOgl := hO4.lt
  replace hO4 := hO4.but hB5 (by simp; omega) (by simp; omega)
  replace kS := kS.but hB5 ndS
  replace kR := kR.but hB5 nd0
  replace hBw := hBw.trans hB5
  clear hB5 hD4
  go_wp2_with fail
  go_loopw [6, 7] (fun s6 s7 wr => ∃ (k : Nat) (l : List (Ch × Nat)) (A : Option Addr) (c : Nat) (S : Sp) (gW cW gF cF : Nat), l.length + k ≤ 4 ∧ s7 = .int .i64 k ∧ s6 = .slice A l.length c ∧ wr.ownsRow (bS + 1) 24 5 (.slice A l.length c) l.length (flatI (l.map incOf)) ∧ GoodL B l ∧ S.sh = sh ∧ Chs S (chs l) ∧ SOw wr (d + 1) S gW cW gF cF ∧
    Blk wr bS 35 #[.int .i64 S.sh, .slice (some ⟨gW, 0, none⟩) S.ws.length cW, .slice (some ⟨gF, 0, none⟩) S.fs.length cF] ∧ Blk wr b0 35 #[.int .i64 0, .slice none 0 0, .slice none 0 0] ∧ Dk wr d ∧ But [d] w wr) (fun _ s7 _ => (intOf s7).toNat)
  case atStart => exact ⟨k0, [], none, 0, S, gW, cW, gF, cF, by simp; omega, rfl, rfl, own_nil _ _ _ _, fun i p h => by simp at h, Hsh.out, HS.out, hO4, kS, kR, hD5, hBw⟩
  case round =>
    clear hOgl hO4 kS kR hBw hD5 Hsh HS hz2 hz3 lR
    obtain ⟨k, l, A, c, S, gW, cW, gF, cF, hlk, rfl, rfl, hL, hG, hsh, hS, hO, kS, kR, hD, hBw⟩ := hrel
    have Hsh := Lib.hid hsh
    have HS := Lib.hid hS
    have HG := Lib.hid hG
    have hsz := hBw.size
    clear hsh hS hG
    by_cases hk : 0 < k
    · have dk : decide ((0 : Int) < k) = true := by simp; omega
      have dk' : decide (0 < k) = true := by simp; omega
      go_wp2_with fail
      go_at_call 25
      refine (next_any d 3 _ hD (by omega) (by omega)).mono ?_
      rintro e w6 ⟨r, rfl, hr, hD6, hB6⟩
      go_wp2_with fail
      go_at_call 25
      refine (next_any d 3 _ hD6 (by omega) (by omega)).mono ?_
      rintro e w7 ⟨bb, rfl, hbb, hD7, hB7⟩
      have hB67 := hB6.trans hB7
      have hL7 := own_over hL hB67 (fun x hx => by have := List.mem_singleton.1 hx; omega)
      have hOl := hO.lt
      have hO7 := hO.but hB67 (by simp; omega) (by simp; omega)
      have kS7 := kS.but hB67 ndS
      have kR7 := kR.but hB67 nd0
      have hBw7 := hBw.trans hB67
      have hL8 := own_alloc hL7 (.cells #[.int .i64 (3 * (l.length : Int) + r), .int .i64 bb, .int .i64 (-1), .int .i64 (-1), .int .i64 0] 24)
      have hE8 := Ext.alloc (Ext.refl w7) (.cells #[.int .i64 (3 * (l.length : Int) + r), .int .i64 bb, .int .i64 (-1), .int .i64 (-1), .int .i64 0] 24)
      have kI8 : Blk (w7.alloc (.cells #[.int .i64 (3 * (l.length : Int) + r), .int .i64 bb, .int .i64 (-1), .int .i64 (-1), .int .i64 0] 24)) w7.heap.size 24 #[.int .i64 (3 * (l.length : Int) + r), .int .i64 bb, .int .i64 (-1), .int .i64 (-1), .int .i64 0] := Blk.new rfl
      have hLI : ∀ g, (Value.slice A l.length c).ownBlock = some g → g < w7.heap.size := fun g hg => (World.ownsRow.lt hL7 g hg).2
      have lS7 := kS7.lt
      clear hL hB6 hB7 hB67 hO kS kR hBw hD hD6 hL7 hOl
      go_upto_region 7 with fail
      replace hO7 := hO7.ext hE8
      replace kS7 := kS7.ext hE8
      replace kR7 := kR7.ext hE8
      replace hBw7 := hBw7.trans (hE8.but _)
      replace hD7 := hD7.ext hE8
      generalize w7.alloc (.cells #[.int .i64 (3 * (l.length : Int) + r), .int .i64 bb, .int .i64 (-1), .int .i64 (-1), .int .i64 0] 24) = w8 at *
      obtain ⟨bI, hbI⟩ : ∃ bI, w7.heap.size = bI := ⟨_, rfl⟩
      rw [hbI] at kI8 lS7 hLI ⊢
      clear hbI hE8
      have lI8 := kI8.lt
      have ndI : bI ∉ [d] := by simp; omega
      obtain ⟨q, hq⟩ : ∃ q : Int, 3 * (l.length : Int) + r = q := ⟨_, rfl⟩
      have hq1 : 3 * (l.length : Int) ≤ q := by omega
      have hq2 : q < 3 * (l.length : Int) + 3 := by omega
      have hqs : q ≤ 100 := by omega
      rw [hq] at kI8
      clear hq
      go_wp2_with fail
      go_at_call 25
      refine (next_any d 5 _ hD7 (by omega) (by omega)).mono ?_
      rintro e w9 ⟨m0, rfl, hm0, hD9, hB9⟩
      have hLo : ∀ x ∈ [d], x < bS + 1 := fun x hx => by have := List.mem_singleton.1 hx; omega
      have hL9 := own_over hL8 hB9 hLo
      have hOl := hO7.lt
      have hO9 := hO7.but hB9 (by simp; omega) (by simp; omega)
      have kS9 := kS7.but hB9 ndS
      have kR9 := kR7.but hB9 nd0
      have kI9 := kI8.but hB9 ndI
      have hBw9 := hBw7.trans hB9
      have hC9 := Lib.hid (HS.out.add (q := q) (b := (bb : Int)) (by omega) (by omega) (by omega) (by omega) (HG.out.notin hq1))
      clear hL8 hO7 kS7 kR7 kI8 hBw7 hD7 hB9 hOl HS
      go_wp2_with fail
      go_loopw [9] (fun s9 wi => ∃ (m : Nat) (S : Sp) (gW cW gF cF : Nat) (c' : List Nat) (wd : Nat), m ≤ 5 ∧ s9 = .int .i64 m ∧ S.sh = sh ∧ Chs S (⟨q, bb, c'⟩ :: chs l) ∧ ceilN wd B = c'.length ∧ SOw wi (d + 1) S gW cW gF cF ∧ Blk wi bS 35 #[.int .i64 S.sh, .slice (some ⟨gW, 0, none⟩) S.ws.length cW, .slice (some ⟨gF, 0, none⟩) S.fs.length cF] ∧
        Blk wi bI 24 #[.int .i64 q, .int .i64 bb, .int .i64 (posI c' 0), .int .i64 (lastI c'), .int .i64 wd] ∧ Blk wi b0 35 #[.int .i64 0, .slice none 0 0, .slice none 0 0] ∧ wi.ownsRow (bS + 1) 24 5 (.slice A l.length c) l.length (flatI (l.map incOf)) ∧ Dk wi d ∧ But [d] w wi) (fun s9 _ => (intOf s9).toNat)
      case atStart => exact ⟨1 + m0, S, gW, cW, gF, cF, [], 0, by omega, by rw [Int.natCast_add]; rfl, Hsh.out, hC9.out, ceil0 hb1, hO9, kS9, kI9, kR9, hL9, hD9, hBw9⟩
      case round =>
        clear hO9 kS9 kI9 kR9 hL9 hD9 hBw9 hC9 Hsh
        obtain ⟨m, S, gW, cW, gF, cF, c', wd, hm, rfl, hsh, hC, hcl, hO, kS, kI, kR, hL, hD, hBw⟩ := hrel
        have Hsh := Lib.hid hsh
        have HC := Lib.hid hC
        have Hcl := Lib.hid hcl
        have hszw := hBw.size
        have n3 : bS ≠ bI := by omega
        have hlg := World.ownsRow.lt hL
        clear hsh hC hcl
        by_cases hm0 : 0 < m
        · have dm : decide ((0 : Int) < m) = true := by simp; omega
          have dm' : decide (0 < m) = true := by simp; omega
          have cS := kS.cell
          have lS := kS.lt
          have cI := kI.cell
          have lI := kI.lt
          go_wp2_with fail
          go_at_call 26
          refine (grown_any d (d + 1) gW cW gF cF S (chs l) ⟨q, bb, c'⟩ wd B _ hD (by omega) (by omega) hO HC.out (by rw [Hsh.out]; exact HsB.out) Hcl.out).mono ?_
          rintro e wg ⟨S2, gW2, cW2, gF2, cF2, c2, wd2, rfl, hsh2, hC2, hcl2, hO2, hD2, hB2⟩
          have kS2 := kS.but hB2 ndS
          have kI2 := kI.but hB2 ndI
          have kR2 := kR.but hB2 nd0
          have hL2 := own_over hL hB2 hLo
          have hBw2 := hBw.trans hB2
          have HC2 := Lib.hid hC2
          have Hcl2 := Lib.hid hcl2
          have Hsh2 := Lib.hid (hsh2.trans Hsh.out)
          clear cS lS cI lI hC2 hcl2 hsh2 hB2
          have cS := kS2.cell
          have fS := kS2.froz
          have lS := kS2.lt
          have cI := kI2.cell
          have fI := kI2.froz
          have lI := kI2.lt
          go_wp2_with fail
          go_roundw
          case rel =>
            have n4 := own_blk_ne hO2.W kS2 (by decide)
            have n5 := own_blk_ne hO2.F kS2 (by decide)
            have n6 := own_blk_ne hO2.W kI2 (by decide)
            have n7 := own_blk_ne hO2.F kI2 (by decide)
            have n8 := own_blk_ne' hL2 kS2 (by decide)
            have n9 : (Value.slice A l.length c).ownBlock ≠ some bI := fun hh => by have := hLI _ hh; omega
            have p1 := ((((((((kS2.set_ 0 (.int .i64 S2.sh)).set_ 1 (.slice (some ⟨gW2, 0, none⟩) S2.ws.length cW2)).set_ 2 (.slice (some ⟨gF2, 0, none⟩) S2.fs.length cF2)).far (p := ⟨bI, 0, none⟩) n3 (.int .i64 q)).far (p := ⟨bI, 1, none⟩) n3 (.int .i64 bb)).far (p := ⟨bI, 2, none⟩) n3 (.int .i64 (posI c2 0))).far (p := ⟨bI, 3, none⟩) n3 (.int .i64 (lastI c2))).far (p := ⟨bI, 4, none⟩) n3 (.int .i64 wd2))
            have p2 := ((((((((kI2.far (p := ⟨bS, 0, none⟩) n3.symm (.int .i64 S2.sh)).far (p := ⟨bS, 1, none⟩) n3.symm (.slice (some ⟨gW2, 0, none⟩) S2.ws.length cW2)).far (p := ⟨bS, 2, none⟩) n3.symm (.slice (some ⟨gF2, 0, none⟩) S2.fs.length cF2)).set_ 0 (.int .i64 q)).set_ 1 (.int .i64 bb)).set_ 2 (.int .i64 (posI c2 0))).set_ 3 (.int .i64 (lastI c2))).set_ 4 (.int .i64 wd2))
            simp only [List.setIfInBounds_toArray, List.set_cons_zero, List.set_cons_succ] at p1 p2
            refine ⟨m - 1, S2, gW2, cW2, gF2, cF2, c2, wd2, by omega, by rw [show ((m - 1 : Nat) : Int) = (m : Int) - 1 by omega], Hsh2.out, HC2.out, Hcl2.out, ?_, p1, p2, ?_, ?_, ?_, ?_⟩
            · repeat (with_reducible refine SOw.far ?_ (by first | exact n4 | exact n6) (by first | exact n5 | exact n7) _)
              exact hO2
            · repeat (with_reducible refine Blk.far ?_ (by simp; omega) _)
              exact kR2
            · repeat (with_reducible refine own_away ?_ (by first | exact n8 | exact n9) _)
              exact hL2
            · repeat (with_reducible refine Dk.far ?_ (by simp; omega) _)
              exact hD2
            · repeat (with_reducible refine But.fresh ?_ (by simp; omega) _)
              exact hBw2
          case measure => simp [intOf]; omega
        · have dm : decide ((0 : Int) < m) = false := by simp; omega
          have dm' : decide (0 < m) = false := by simp; omega
          have cI := kI.cell
          have lI := kI.lt
          rcases Nat.eq_zero_or_pos wd with h0 | h0
          · have dw : decide ((0 : Int) < wd) = false := by simp; omega
            have dw' : decide (0 < wd) = false := by simp; omega
            have hc0 : c' = [] := List.eq_nil_of_length_eq_zero (by have := Hcl.out; rw [h0, ceil0 hb1] at this; omega)
            have HC3 := Lib.hid (HC.out.drop hc0)
            clear h0 hc0
            go_wp2_with fail
            go_roundw
            case rel => exact ⟨k - 1, l, A, c, S, gW, cW, gF, cF, by omega, by rw [show ((k - 1 : Nat) : Int) = (k : Int) - 1 by omega], rfl, hL, HG.out, Hsh.out, HC3.out, hO, kS, kR, hD, hBw⟩
            case measure => simp [intOf]; omega
          · have dw : decide ((0 : Int) < wd) = true := by simp; omega
            have dw' : decide (0 < wd) = true := by simp; omega
            go_wp2_with (first | (at_builtin; refine wpList_append rfl Try.elN _ _ rfl (bS + 1) _ _ _ rfl (own_alloc hL _) _ 1 1 _ rfl (rd_new _ [_, _, _, _, _] 24 1 5 rfl) (by simp [Value.oneCell']) (by omega) (by omega) (by (first | omega | (simp; done) | (simp; omega))) ?_; intro A2 a2 w2 hL2 hg2 hat2))
            go_roundw
            case rel =>
              have hEn := Ext.alloc (Ext.refl wr) (.cells #[.int .i64 q, .int .i64 bb, .int .i64 (posI c' 0), .int .i64 (lastI c'), .int .i64 wd] 24)
              have hBg := but_grown hg2
              have hsn := HG.out.snoc (p := (⟨q, bb, c'⟩, wd)) ⟨hq1, hq2, by simp, by simpa using hbb, h0, Hcl.out⟩
              have hll : (l ++ [((⟨q, bb, c'⟩, wd) : Ch × Nat)]).length = l.length + 1 := by simp
              refine ⟨k - 1, l ++ [(⟨q, bb, c'⟩, wd)], A2, a2, S, gW, cW, gF, cF, by simp; omega, by rw [show ((k - 1 : Nat) : Int) = (k : Int) - 1 by omega], by rw [hll], ?_, hsn, Hsh.out, by rw [chs_snoc]; exact HC.out, ?_, ?_, ?_, ?_, ?_⟩
              · rw [hll, List.map_append, flatI_append]
                exact hL2
              · exact (hO.ext hEn).but hBg (not_toList (own_own_ne hL hO.W (by decide))) (not_toList (own_own_ne hL hO.F (by decide)))
              · exact (kS.ext hEn).but hBg (not_toList (own_blk_ne' hL kS (by decide)))
              · exact (kR.ext hEn).but hBg (not_toList (own_blk_ne' hL kR (by decide)))
              · exact (hD.ext hEn).but hBg (fun x hx => by have := (hlg x (Option.mem_toList.1 hx)).1; omega)
              · exact But.over (hBw.trans (hEn.but _)) hBg (fun x hx => by have := (hlg x (Option.mem_toList.1 hx)).1; omega)
            case measure => simp [intOf]; omega
    · have dk : decide ((0 : Int) < k) = false := by simp; omega
      have dk' : decide (0 < k) = false := by simp; omega
      have cS := kS.cell
      have lS := kS.lt
      have cR := kR.cell
      have fR := kR.froz
      have lR := kR.lt
      go_wp2
      have p1 := ((kR.set_ 0 (.int .i64 S.sh)).set_ 1 (.slice (some ⟨gW, 0, none⟩) S.ws.length cW)).set_ 2 (.slice (some ⟨gF, 0, none⟩) S.fs.length cF)
      simp only [List.setIfInBounds_toArray, List.set_cons_zero, List.set_cons_succ] at p1
      have n1 := own_blk_ne hO.W kR (by decide)
      have n2 := own_blk_ne hO.F kR (by decide)
      refine fin_space rfl rfl rfl p1 ⟨S, gW, cW, gF, cF, l, A, c, B, rfl, by rw [Hsh.out]; exact HsB.out, HS.out, HG.out, by omega, ?_, ?_, ?_, ?_⟩
      · refine SOw.rd (base := d + 1) (cW := cW) (cF := cF) ?_
        repeat (with_reducible refine SOw.far ?_ (by simpa using n1) (by simpa using n2) _)
        exact hO
      · refine Rd.of_own (base := bS + 1) (e := 24) (c := c) ?_
        have hgl := World.ownsRow.lt hL
        repeat (with_reducible refine own_away ?_ (fun hh => by have := (hgl _ hh).1; simp at this; omega) _)
        exact hL
      · repeat (with_reducible refine Dk.far ?_ (by simp; omega) _)
        exact hD
      · repeat (with_reducible refine But.fresh ?_ (by simp; omega) _)
        exact hBw
end Go.Proofs.Ytljkadpconghnaa
