/- The walk of the law OrderLists. Conditions: the ranges that each theorem states. -/
import Derived.Test.YtljkadpconghnaaSpcZ
namespace Go.Proofs.Ytljkadpconghnaa
open Go.RowKit Go.Draw

/-- a value that is a list of integers, and not a long one -/
def SeqC (w : World) (v : Value) : Prop := ∃ (D : Option Addr) (n d : Nat) (zs : List Int), v = .slice D n d ∧ zs.length = n ∧ n ≤ 1000 ∧ Rd w D n 1 (ints zs)
theorem SeqC.ext {w w' : World} {v : Value} (h : SeqC w v) (he : Ext w w') : SeqC w' v := by
  obtain ⟨D, n, d, zs, h1, h2, h3, h4⟩ := h
  exact ⟨D, n, d, zs, h1, h2, h3, h4.ext he⟩
/-- a value that is a list of belts, and not a long one -/
def BelC (w : World) (v : Value) : Prop := ∃ (A : Option Addr) (a : Nat) (Q : List (List Inc)), v = .slice A Q.length a ∧ BRd w A Q ∧ Q.length ≤ 1000 ∧ Q.flatten.length ≤ 1000
theorem BelC.ext {w w' : World} {v : Value} (h : BelC w v) (he : Ext w w') : BelC w' v := by
  obtain ⟨A, a, Q, h1, h2, h3⟩ := h
  exact ⟨A, a, Q, h1, h2.ext he, h3⟩
theorem slight_to (A : Option Addr) (c : Nat) (Q : List (List Inc)) (b : Bool) (w : World) (h : BRd w A Q) (hn : Q.length ≤ 8) (hl : ∀ q ∈ Q, q.length ≤ 1000000000000000) (hb : decide (Q.flatten.length ≤ 40) = b) : Calls Try.prog 18 #[.slice A Q.length c] w fun r w' => r = .returned (.bool b) ∧ w = w' := by
  subst hb
  exact slight_few A c Q w h 1000000000000000 (by omega) hn hl
theorem prefix_eq (A D : Option Addr) (a c n : Nat) (Q : List (List Inc)) (F : List Inc) (zs : List Int) (b : Bool) (w : World) (h : BRd w A Q) (hn : Q.length ≤ 1000) (hF : Q.flatten = F) (hf : F.length ≤ 1000) (hz : Rd w D n 1 (ints zs)) (hzn : zs.length = n) (hzl : n ≤ 1000) (hb : prefB F zs = b) :
    Calls Try.prog 17 #[.slice A Q.length a, .slice D n c] w fun r w' => r = .returned (.bool b) ∧ Ext w w' := by
  subst hzn
  subst hb
  exact prefix_any A D a c Q F zs w h hn hF hf hz hzl
theorem rprefix_eq (A D : Option Addr) (a c n : Nat) (Q : List (List Inc)) (F : List Inc) (zs : List Int) (b : Bool) (w : World) (h : BRd w A Q) (hn : Q.length ≤ 1000) (hF : Q.flatten = F) (hf : F.length ≤ 1000) (hz : Rd w D n 1 (ints zs)) (hzn : zs.length = n) (hzl : n ≤ 1000) (hb : prefB F zs = b) :
    Calls Try.prog 23 #[.slice A Q.length a, .slice D n c] w fun r w' => r = .returned (.bool b) ∧ Ext w w' := by
  subst hzn
  subst hb
  exact rprefix_any A D a c Q F zs w h hn hF hf hz hzl
theorem rfirst_to (A : Option Addr) (c : Nat) (Q : List (List Inc)) (F : List Inc) (w : World) (h : BRd w A Q) (hn : Q.length ≤ 1000) (hF : Q.flatten = F) (hf : F.length ≤ 1000) : Calls Try.prog 21 #[.slice A Q.length c] w fun r w' => r = .returned (headV F) ∧ Ext w w' := by
  subst hF
  exact rfirst_any A c Q w h hn (by omega)
theorem headV_tup (F : List Inc) : ∃ (q b f l w : Int) (ok : Bool), headV F = .tuple #[.agg #[.int .i64 q, .int .i64 b, .int .i64 f, .int .i64 l, .int .i64 w], .bool ok] := by
  cases F with
  | nil => exact ⟨0, 0, 0, 0, 0, false, rfl⟩
  | cons i F => exact ⟨_, _, _, _, _, true, rfl⟩
theorem first_tup (A : Option Addr) (c : Nat) (Q : List (List Inc)) (F : List Inc) (q b f l m : Int) (ok : Bool) (w : World) (h : BRd w A Q) (hn : Q.length ≤ 1000) (hF : Q.flatten = F) (hv : headV F = .tuple #[.agg #[.int .i64 q, .int .i64 b, .int .i64 f, .int .i64 l, .int .i64 m], .bool ok]) :
    Calls Try.prog 20 #[.slice A Q.length c] w fun r w' => r = .returned (.tuple #[.agg #[.int .i64 q, .int .i64 b, .int .i64 f, .int .i64 l, .int .i64 m], .bool ok]) ∧ Ext w w' := by
  rw [← hv]
  exact first_to A c Q F w h hn hF
theorem rfirst_tup (A : Option Addr) (c : Nat) (Q : List (List Inc)) (F : List Inc) (q b f l m : Int) (ok : Bool) (w : World) (h : BRd w A Q) (hn : Q.length ≤ 1000) (hF : Q.flatten = F) (hf : F.length ≤ 1000) (hv : headV F = .tuple #[.agg #[.int .i64 q, .int .i64 b, .int .i64 f, .int .i64 l, .int .i64 m], .bool ok]) :
    Calls Try.prog 21 #[.slice A Q.length c] w fun r w' => r = .returned (.tuple #[.agg #[.int .i64 q, .int .i64 b, .int .i64 f, .int .i64 l, .int .i64 m], .bool ok]) ∧ Ext w w' := by
  rw [← hv]
  exact rfirst_to A c Q F w h hn hF hf
theorem five {w : World} {v0 v1 v2 v3 v4 : Value} (h0 : SeqC w v0) (h1 : SeqC w v1) (h2 : SeqC w v2) (h3 : SeqC w v3) (h4 : SeqC w v4) (t : Nat) (ht : t < 5) : ∃ v, #[v0, v1, v2, v3, v4][t]? = some v ∧ SeqC w v := by
  have : t = 0 ∨ t = 1 ∨ t = 2 ∨ t = 3 ∨ t = 4 := by omega
  rcases this with rfl | rfl | rfl | rfl | rfl
  · exact ⟨v0, rfl, h0⟩
  · exact ⟨v1, rfl, h1⟩
  · exact ⟨v2, rfl, h2⟩
  · exact ⟨v3, rfl, h3⟩
  · exact ⟨v4, rfl, h4⟩
theorem two {w : World} {v0 v1 : Value} (h0 : BelC w v0) (h1 : BelC w v1) (t : Nat) (ht : t < 2) : ∃ v, #[v0, v1][t]? = some v ∧ BelC w v := by
  have : t = 0 ∨ t = 1 := by omega
  rcases this with rfl | rfl
  · exact ⟨v0, rfl, h0⟩
  · exact ⟨v1, rfl, h1⟩
set_option maxRecDepth 100000 in
set_option maxHeartbeats 4000000 in
theorem lawLists_any (A0 : Option Addr) (a0 : Nat) (R : List (List Inc)) (A1 : Option Addr) (n1 c1 : Nat) (us : List Int) (A2 : Option Addr) (c2 n2 : Nat) (zs : List Int) (pk which : Int) (w : World) (hR : BRd w A0 R) (hRn : R.length ≤ 1000000000000000000) (hRl : ∀ q ∈ R, q.length ≤ 1000000000000000)
    (hu : Rd w A1 n1 1 (ints us)) (hn1 : n1 ≤ 9223372036854775807) (hz : Rd w A2 n2 1 (ints zs)) (hzn : zs.length = n2) (hn2 : n2 ≤ 9223372036854775807) :
    Calls Try.prog 5 #[.slice A0 R.length a0, .slice A1 n1 c1, .slice A2 n2 c2, .int .i64 pk, .int .i64 which] w fun r w' => r = .returned (.bool true) ∧ Ext w w' := by
  have Hzn := Lib.hid hzn
  have HRl := Lib.hid hRl
  clear hzn hRl
  go_enter Try.func5, Try.ntmps5
  by_cases h8 : R.length ≤ 8
  · by_cases h40 : R.flatten.length ≤ 40
    · have H40 := Lib.hid h40
      have Hb := Lib.hid (show decide (R.flatten.length ≤ 40) = true from decide_eq_true h40)
      clear h40
      by_cases hz40 : n2 ≤ 40
      · have d1 : decide ((40 : Int) < n2) = false := decide_eq_false (by omega)
        have d1' : decide (40 < n2) = false := decide_eq_false (by omega)
        go_wp2_with (first | (go_at_call 18; refine (slight_to A0 a0 R true _ hR h8 HRl.out Hb.out).mono ?_; rintro e w1 ⟨rfl, rfl⟩))
        go_at_call 14
        refine (deck_any A1 n1 c1 us _ hu hn1).mono ?_
        rintro e w1 ⟨rfl, hD1, hE1⟩
        go_wp2_with fail
        go_at_call 13
        refine (space_any _ _ hD1).mono ?_
        rintro e w2 ⟨S, gW, cW, gF, cF, l, A, c, B, rfl, hB, hS, hG, hl4, hO, hRd, hD2, hB2⟩
        have hE2 := But.ext hE1 hB2 (fun x hx => by have := List.mem_singleton.1 hx; omega)
        have hGd := hG.good hl4
        obtain ⟨L, hL⟩ : ∃ L, l.map incOf = L := ⟨_, rfl⟩
        have hll : l.length = L.length := by rw [← hL]; simp
        rw [hL] at hGd hRd
        rw [hll] at hRd ⊢
        have hL4 : L.length ≤ 4 := hGd.1
        clear hB hS hG hl4 hO hD1 hD2 hB2 hE1 hL hll hu
        obtain ⟨Q, hQq⟩ : ∃ Q, qs L = Q := ⟨_, rfl⟩
        have hQ3 : Q.length ≤ 1000 := by rw [← hQq]; simp [qs]
        obtain ⟨F, hF⟩ : ∃ F, Q.flatten = F := ⟨_, rfl⟩
        have hFl : F.length = L.length := by rw [← hF, ← hQq]; exact qs_len_all hGd
        have hF4 : F.length ≤ 4 := by omega
        have HF := Lib.hid hF
        have HQq := Lib.hid hQq
        have HGd := Lib.hid hGd
        have hEn := Ext.alloc (Ext.refl w2) (.cells #[.int .i64 S.sh, .slice (some ⟨gW, 0, none⟩) S.ws.length cW, .slice (some ⟨gF, 0, none⟩) S.fs.length cF] 35)
        have hE3 := hE2.trans hEn
        have hR3 := hRd.ext hEn
        clear hF hFl hQq hRd hE2 hGd hEn
        go_upto_region 4 with fail
        generalize w2.alloc (.cells #[.int .i64 S.sh, .slice (some ⟨gW, 0, none⟩) S.ws.length cW, .slice (some ⟨gF, 0, none⟩) S.fs.length cF] 35) = w3 at *
        generalize w2.heap.size = gS at *
        go_wp2_with fail
        go_at_call 15
        refine (queue_to A c L Q L.length _ hR3 rfl (by omega) (fun i hi => by have := HGd.out.of hi; omega) HQq.out).mono ?_
        rintro e w4 ⟨gq, rfl, hQ, hE4⟩
        have hE0 := hE3.trans hE4
        clear hE3 hE4 hR3
        go_wp2_with fail
        go_at_call 19
        refine (rall_to _ 3 Q F _ hQ hQ3 HF.out (by omega)).mono ?_
        rintro e w5 ⟨B5, b5, rfl, hA5, hE5⟩
        replace hE0 := hE0.trans hE5
        have hcap := own_cap hA5
        have hA := Rd.of_own hA5
        replace hQ := hQ.ext hE5
        clear hE5 hA5
        obtain ⟨m, hm⟩ : ∃ m : Nat, pk % ((F.length : Int) + 1) = (m : Int) := ⟨(pk % ((F.length : Int) + 1)).toNat, by have := Int.emod_nonneg pk (b := (F.length : Int) + 1) (by omega); omega⟩
        have hmF : m ≤ F.length := by have := Int.emod_lt_of_pos pk (b := (F.length : Int) + 1) (by omega); omega
        have hmI : (m : Int) ≤ b5 := by omega
        have Hm := Lib.hid hm
        clear hm
        go_wp2_with (first | (go_at_call 7; refine (mod_to _ _ m _ (by omega) (by omega) Hm.out).mono ?_; rintro e w6 ⟨rfl, rfl⟩))
        go_loopw [15, 54] (fun s15 s54 wr => ∃ (k : Nat) (D : Option Addr) (d : Nat) (ys : List Int), k ≤ m ∧ s54 = .int .i64 k ∧ s15 = .slice D k d ∧ ys.length = k ∧ Rd wr D k 1 (ints ys) ∧ Ext w5 wr) (fun _ s54 _ => m - (intOf s54).toNat)
        case atStart => exact ⟨0, none, 0, [], by omega, rfl, rfl, rfl, Rd.nil_ _ _ _, by (repeat (first | (with_reducible exact Ext.refl _) | assumption | (with_reducible refine Ext.alloc ?_ _) | (with_reducible refine Ext.drew ?_) | (with_reducible refine Ext.drewL ?_) | refine Ext.trans ?_ (by assumption)))⟩
        case round =>
          obtain ⟨k, D, d, ys, hk, rfl, rfl, hyl, hD, hE⟩ := hrel
          have Hyl := Lib.hid hyl
          clear hyl
          by_cases hlt : k < m
          · have hdec : decide ((k : Int) < m) = true := by simp; omega
            have hdec' : decide (k < m) = true := by simp; omega
            have hkI : (k : Int) < m := by omega
            obtain ⟨bB, oB, rfl⟩ := rd_ad hA (by omega)
            obtain ⟨i, hi⟩ : ∃ i, F[k]? = some i := ⟨_, List.getElem?_eq_getElem (by omega)⟩
            obtain ⟨e0, e1, e2, e3, e4⟩ := inc_in (hA.ext hE) hi
            have l1 := cell_lt e0
            clear hi
            have hN : ((wr.alloc (.cells #[.int .i64 i.q, .int .i64 i.b, .int .i64 i.f, .int .i64 i.l, .int .i64 i.w] 24)).alloc (.cells #[.int .i64 i.q] 3)).ownsRow (wr.heap.size + 1) 3 1 (.slice (some ⟨wr.heap.size + 1, 0, none⟩) 1 1) 1 [.int .i64 i.q] := own_new (cs := [.int .i64 i.q]) (by simp) (by simp) (by omega) rfl
            have hEN : Ext wr ((wr.alloc (.cells #[.int .i64 i.q, .int .i64 i.b, .int .i64 i.f, .int .i64 i.l, .int .i64 i.w] 24)).alloc (.cells #[.int .i64 i.q] 3)) := by (repeat (first | (with_reducible exact Ext.refl _) | assumption | (with_reducible refine Ext.alloc ?_ _) | (with_reducible refine Ext.drew ?_) | (with_reducible refine Ext.drewL ?_) | refine Ext.trans ?_ (by assumption)))
            have hDN := hD.ext hEN
            go_wp2_with (first | (at_builtin; refine wpList_append rfl Try.elI _ _ rfl (wr.heap.size + 1) _ _ _ rfl hN _ _ _ _ rfl hDN (one_ints ys) (by omega) (by omega) (by (first | omega | (simp; done) | (simp; omega))) ?_; intro A2 a2 w2 hZ2 hg2 hat2))
            have hE2 : Ext w5 w2 := ext_grown (hE.trans hEN) hg2 hN (by have := hE.size_le; omega)
            go_roundw
            case rel => exact ⟨k + 1, A2, a2, i.q :: ys, by omega, by go_num, by rw [Nat.add_comm], by simp [Hyl.out], by rw [Nat.add_comm]; simpa [ints] using Rd.of_own hZ2, hE2⟩
            case measure => simp [intOf]; omega
          · have hdec : decide ((k : Int) < m) = false := by simp; omega
            have hdec' : decide (k < m) = false := by simp; omega
            have hk4 : k ≤ 4 := by omega
            have hS : SeqC wr (.slice D k d) := ⟨D, k, d, ys, rfl, Hyl.out, by omega, hD⟩
            go_upto_if 68 with (first | (at_builtin; refine wpList_clone rfl Try.elI _ _ rfl rfl wr.heap.size _ _ _ _ rfl hD (one_ints ys) (by omega) (by omega) (Nat.le_refl _) ?_; intro A3 a3 w6 hO6 hE6))
            have hE06 := hE.trans hE6
            clear hdec hdec' hlt hk
            go_cut [18] from 66 to 80 (fun s18 wx => SeqC wx s18 ∧ Rd wx D k 1 (ints ys) ∧ Ext w5 wx)
            case first =>
              by_cases hF0 : 0 < F.length
              · have e1 : decide ((0 : Int) < F.length) = true := decide_eq_true (by omega)
                have e1' : decide (0 < F.length) = true := decide_eq_true (by omega)
                obtain ⟨j, hj⟩ : ∃ j : Nat, which % (F.length : Int) = (j : Int) := ⟨(which % (F.length : Int)).toNat, by have := Int.emod_nonneg which (b := (F.length : Int)) (by omega); omega⟩
                have hjF : j < F.length := by have := Int.emod_lt_of_pos which (b := (F.length : Int)) (by omega); omega
                have hjI : (j : Int) < F.length := by omega
                have e2 : decide ((j : Int) < F.length) = true := decide_eq_true (by omega)
                have e2' : decide (j < F.length) = true := decide_eq_true (by omega)
                have Hj := Lib.hid hj
                clear hj
                obtain ⟨bB, oB, rfl⟩ := rd_ad hA (by omega)
                obtain ⟨i, hi⟩ : ∃ i, F[j]? = some i := ⟨_, List.getElem?_eq_getElem hjF⟩
                obtain ⟨c0, c1', c2', c3, c4⟩ := inc_in (hA.ext hE06) hi
                have l1 := cell_lt c0
                clear hi
                go_wp2_with (first | (go_at_call 7; refine (mod_to _ _ j _ (by omega) (by omega) Hj.out).mono ?_; rintro e w7 ⟨rfl, rfl⟩) | (at_builtin; refine wpList_append rfl Try.elI _ _ rfl wr.heap.size _ _ _ rfl (own_alloc hO6 _) _ 1 1 _ rfl (rd_one _ _ _) (by simp [Value.oneCell']) (by omega) (by omega) (by have := hE6.size_le; (first | omega | (simp; done) | (simp; omega))) ?_; intro A7 a7 w7 hO7 hg7 hat7))
                go_meet
                have hE7 : Ext wr w7 := ext_grown (hE6.trans (Ext.alloc (Ext.refl _) _)) hg7 (own_alloc hO6 _) (Nat.le_refl _)
                exact ⟨⟨A7, k + 1, a7, ys ++ [i.q], rfl, by simp [Hyl.out], by omega, by simpa [ints] using Rd.of_own hO7⟩, hD.ext hE7, hE.trans hE7⟩
              · have e1 : decide ((0 : Int) < F.length) = false := decide_eq_false (by omega)
                have e1' : decide (0 < F.length) = false := decide_eq_false (by omega)
                go_wp2_with fail
                go_meet
                exact ⟨⟨A3, k, a3, ys, rfl, Hyl.out, by omega, Rd.of_own hO6⟩, hD.ext hE6, hE06⟩
            case rest =>
              obtain ⟨hOth, hDx, hEx⟩ := hcut
              clear hE06 hE6 hO6 hE hD hS hA
              obtain ⟨DO, nO, dO, yo, rfl, hyo, hno, hRO⟩ := hOth
              have Hyo := Lib.hid hyo
              clear hyo
              have hE0c := hE0.trans hEx
              have hQc := hQ.ext hEx
              have hRc := hR.ext hE0c
              have hzc := hz.ext hE0c
              clear hE0 hEx hQ hz
              go_wp2_with fail
              have hEn := Ext.alloc (Ext.refl wc) (.cells #[.slice (some ⟨gq, 0, none⟩) Q.length 3, .slice A0 R.length a0] 26)
              have kX : Blk (wc.alloc (.cells #[.slice (some ⟨gq, 0, none⟩) Q.length 3, .slice A0 R.length a0] 26)) wc.heap.size 26 #[.slice (some ⟨gq, 0, none⟩) Q.length 3, .slice A0 R.length a0] := Blk.new rfl
              have Htwo := Lib.hid (fun (t : Nat) (ht : t < 2) => two (w := wc.alloc (.cells #[.slice (some ⟨gq, 0, none⟩) Q.length 3, .slice A0 R.length a0] 26)) (v0 := .slice (some ⟨gq, 0, none⟩) Q.length 3) (v1 := .slice A0 R.length a0) ⟨_, _, Q, rfl, hQc.ext hEn, hQ3, by rw [HF.out]; omega⟩ ⟨_, _, R, rfl, hRc.ext hEn, by omega, by have := H40.out; omega⟩ t ht)
              have hE0X := hE0c.trans hEn
              have hzX := hzc.ext hEn
              have hDX := hDx.ext hEn
              have hROX := hRO.ext hEn
              clear hEn hE0c hQc hRc hzc hDx hRO
              generalize wc.alloc (.cells #[.slice (some ⟨gq, 0, none⟩) Q.length 3, .slice A0 R.length a0] 26) = wX at *
              generalize wc.heap.size = gX at *
              go_loopw [84] (fun s84 wr => ∃ t : Nat, t ≤ 2 ∧ s84 = .int .i64 t ∧ Ext wX wr) (fun s84 _ => 2 - (intOf s84).toNat)
              case atStart => exact ⟨0, by omega, rfl, by (repeat (first | (with_reducible exact Ext.refl _) | assumption | (with_reducible refine Ext.alloc ?_ _) | (with_reducible refine Ext.drew ?_) | (with_reducible refine Ext.drewL ?_) | refine Ext.trans ?_ (by assumption)))⟩
              case round =>
                obtain ⟨t, ht, rfl, hE⟩ := hrel
                by_cases ht2 : t < 2
                · have f1 : decide ((t : Int) < 2) = true := decide_eq_true (by omega)
                  have f1' : decide (t < 2) = true := decide_eq_true (by omega)
                  have htI : (t : Int) < 2 := by omega
                  obtain ⟨v, hv, A', a', Q', rfl, hQ', hn', hl'⟩ := Htwo.out t ht2
                  have cX := ((kX.ext hE).cell t).trans hv
                  have lX := (kX.ext hE).lt
                  obtain ⟨F', hF'⟩ : ∃ F', Q'.flatten = F' := ⟨_, rfl⟩
                  rw [hF'] at hl'
                  have HF' := Lib.hid hF'
                  obtain ⟨hq, hb, hf, hl, hw, ok, hhv⟩ := headV_tup F'
                  have Hhv := Lib.hid hhv
                  have hQr := hQ'.ext hE
                  clear hv hF' hhv hQ'
                  go_wp2_with fail
                  go_at_call 20
                  refine (first_tup A' a' Q' F' hq hb hf hl hw ok _ hQr hn' HF'.out Hhv.out).mono ?_
                  rintro e w7 ⟨rfl, hE7⟩
                  have hQ7 := hQr.ext hE7
                  have hEr := hE.trans hE7
                  clear cX lX hE hQr hE7
                  go_upto_region 19 with fail
                  have hEn := Ext.alloc (Ext.refl w7) (.cells #[.int .i64 hq, .int .i64 hb, .int .i64 hf, .int .i64 hl, .int .i64 hw] 24)
                  have k1 : Blk (w7.alloc (.cells #[.int .i64 hq, .int .i64 hb, .int .i64 hf, .int .i64 hl, .int .i64 hw] 24)) w7.heap.size 24 #[.int .i64 hq, .int .i64 hb, .int .i64 hf, .int .i64 hl, .int .i64 hw] := Blk.new rfl
                  replace hQ7 := hQ7.ext hEn
                  replace hEr := hEr.trans hEn
                  clear hEn
                  generalize w7.alloc (.cells #[.int .i64 hq, .int .i64 hb, .int .i64 hf, .int .i64 hl, .int .i64 hw] 24) = w8 at *
                  generalize w7.heap.size = g1 at *
                  go_wp2_with fail
                  go_at_call 21
                  refine (rfirst_tup A' a' Q' F' hq hb hf hl hw ok _ hQ7 hn' HF'.out (by omega) Hhv.out).mono ?_
                  rintro e w9 ⟨rfl, hE9⟩
                  have hQ9 := hQ7.ext hE9
                  replace k1 := k1.ext hE9
                  replace hEr := hEr.trans hE9
                  clear hQ7 hE9
                  go_upto_region 20 with fail
                  have hEn := Ext.alloc (Ext.refl w9) (.cells #[.int .i64 hq, .int .i64 hb, .int .i64 hf, .int .i64 hl, .int .i64 hw] 24)
                  have k2 : Blk (w9.alloc (.cells #[.int .i64 hq, .int .i64 hb, .int .i64 hf, .int .i64 hl, .int .i64 hw] 24)) w9.heap.size 24 #[.int .i64 hq, .int .i64 hb, .int .i64 hf, .int .i64 hl, .int .i64 hw] := Blk.new rfl
                  replace hQ9 := hQ9.ext hEn
                  replace hEr := hEr.trans hEn
                  replace k1 := k1.ext hEn
                  clear hEn
                  generalize w9.alloc (.cells #[.int .i64 hq, .int .i64 hb, .int .i64 hf, .int .i64 hl, .int .i64 hw] 24) = wA at *
                  generalize w9.heap.size = g2 at *
                  have ca := k1.cell
                  have la := k1.lt
                  have cb := k2.cell
                  have lb := k2.lt
                  go_upto_region 22 with (first | (go_at_call 16; refine (all_to A' a' Q' F' _ hQ9 hn' HF'.out (by omega)).mono ?_; rintro e wB ⟨BB, bb, rfl, hBB, hEB⟩; have hQB := hQ9.ext hEB; have hRB := Rd.of_own hBB) | (go_at_call 19; refine (rall_to A' a' Q' F' _ hQB hn' HF'.out (by omega)).mono ?_; rintro e wC ⟨BC, bc, rfl, hBC, hEC⟩; have hRC := Rd.of_own hBC; have hRB2 := hRB.ext hEC) | (go_at_call 22; refine (sameL_any BB BC bb bc F' _ hRB2 hRC (by omega)).mono ?_; rintro e wD ⟨rfl, hED⟩))
                  have hErD := hEr.trans (hEB.trans (hEC.trans hED))
                  have hQD := (hQB.ext hEC).ext hED
                  clear hEr hEB hEC hED hQB hRB hRC hRB2 hBB hBC ca la cb lb k1 k2 hQ9
                  have hDD := hDX.ext hErD
                  go_wp2_with (first | (at_builtin; refine wpList_clone rfl Try.elI _ _ rfl rfl wD.heap.size _ _ _ _ rfl hDD (one_ints ys) (by omega) (by omega) (Nat.le_refl _) ?_; intro A4 a4 wE hOE hEE) | (at_builtin; refine wpList_append rfl Try.elI _ _ rfl wD.heap.size _ _ _ rfl hOE _ k d _ rfl (hDD.ext hEE) (one_ints ys) (by omega) (by omega) (by have := hEE.size_le; (first | omega | (simp; done) | (simp; omega))) ?_; intro A5 a5 wF hOF hgF hatF))
                  have hEF : Ext wD wF := ext_grown hEE hgF hOE (Nat.le_refl _)
                  have hEn := Ext.alloc (Ext.refl wF) (.cells #[.slice A2 n2 c2, .slice D k d, .slice DO nO dO, .slice none 0 0, .slice A5 (k + k) a5] 31)
                  have kY : Blk (wF.alloc (.cells #[.slice A2 n2 c2, .slice D k d, .slice DO nO dO, .slice none 0 0, .slice A5 (k + k) a5] 31)) wF.heap.size 31 #[.slice A2 n2 c2, .slice D k d, .slice DO nO dO, .slice none 0 0, .slice A5 (k + k) a5] := Blk.new rfl
                  have hEY := hErD.trans (hEF.trans hEn)
                  have hQY := hQD.ext (hEF.trans hEn)
                  have Hfive := Lib.hid (fun (t : Nat) (ht : t < 5) => five (w := wF.alloc (.cells #[.slice A2 n2 c2, .slice D k d, .slice DO nO dO, .slice none 0 0, .slice A5 (k + k) a5] 31)) (v0 := .slice A2 n2 c2) (v1 := .slice D k d) (v2 := .slice DO nO dO) (v3 := .slice none 0 0) (v4 := .slice A5 (k + k) a5)
                    ⟨_, _, _, zs, rfl, Hzn.out, by omega, hzX.ext hEY⟩ ⟨_, _, _, ys, rfl, Hyl.out, by omega, hDX.ext hEY⟩ ⟨_, _, _, yo, rfl, Hyo.out, hno, hROX.ext hEY⟩ ⟨_, _, _, [], rfl, rfl, by omega, Rd.nil_ _ _ _⟩ ⟨_, _, _, ys ++ ys, rfl, by simp [Hyl.out], by omega, by simpa [ints] using (Rd.of_own hOF).ext hEn⟩ t ht)
                  clear hErD hEF hEn hQD hDD hOE hEE hOF hgF hatF
                  generalize wF.alloc (.cells #[.slice A2 n2 c2, .slice D k d, .slice DO nO dO, .slice none 0 0, .slice A5 (k + k) a5] 31) = wY at *
                  generalize wF.heap.size = gY at *
                  go_loopw [123] (fun s123 wr => ∃ r : Nat, r ≤ 5 ∧ s123 = .int .i64 r ∧ Ext wY wr) (fun s123 _ => 5 - (intOf s123).toNat)
                  case atStart => exact ⟨0, by omega, rfl, by (repeat (first | (with_reducible exact Ext.refl _) | assumption | (with_reducible refine Ext.alloc ?_ _) | (with_reducible refine Ext.drew ?_) | (with_reducible refine Ext.drewL ?_) | refine Ext.trans ?_ (by assumption)))⟩
                  case round =>
                    obtain ⟨r, hr, rfl, hE⟩ := hrel
                    by_cases hr5 : r < 5
                    · have q1 : decide ((r : Int) < 5) = true := decide_eq_true (by omega)
                      have q1' : decide (r < 5) = true := decide_eq_true (by omega)
                      have hrI : (r : Int) < 5 := by omega
                      obtain ⟨v, hv, Ds, ns, ds, zt, rfl, hzt, hns, hRs⟩ := Hfive.out r hr5
                      have cY := ((kY.ext hE).cell r).trans hv
                      have lY := (kY.ext hE).lt
                      obtain ⟨pb, hpb⟩ : ∃ pb, prefB F' zt = pb := ⟨_, rfl⟩
                      have Hpb := Lib.hid hpb
                      have Hzt := Lib.hid hzt
                      clear hv hzt hpb
                      go_wp2_with (first | (go_at_call 17; refine (prefix_eq A' Ds a' ds ns Q' F' zt pb _ (hQY.ext hE) hn' HF'.out (by omega) (hRs.ext hE) Hzt.out (by omega) Hpb.out).mono ?_; rintro e wG ⟨rfl, hEG⟩) | (go_at_call 23; refine (rprefix_eq A' Ds a' ds ns Q' F' zt pb _ (hQY.ext (hE.trans hEG)) hn' HF'.out (by omega) (hRs.ext (hE.trans hEG)) Hzt.out (by omega) Hpb.out).mono ?_; rintro e wH ⟨rfl, hEH⟩))
                      go_roundw
                      case rel => exact ⟨r + 1, by omega, by go_num, hE.trans (hEG.trans hEH)⟩
                      case measure => simp [intOf]; omega
                    · have q1 : decide ((r : Int) < 5) = false := decide_eq_false (by omega)
                      have q1' : decide (r < 5) = false := decide_eq_false (by omega)
                      go_wp2_with fail
                      go_roundw
                      case rel => exact ⟨t + 1, by omega, by go_num, hEY.trans hE⟩
                      case measure => simp [intOf]; omega
                · have f1 : decide ((t : Int) < 2) = false := decide_eq_false (by omega)
                  have f1' : decide (t < 2) = false := decide_eq_false (by omega)
                  go_wp2_with (first | (go_at_call 12; refine (awake_any _).mono ?_; rintro e w8 ⟨rfl, hE8⟩))
                  go_ret
                  exact ⟨rfl, hE0X.trans (hE.trans hE8)⟩
      · have d1 : decide ((40 : Int) < n2) = true := decide_eq_true (by omega)
        have d1' : decide (40 < n2) = true := decide_eq_true (by omega)
        go_wp2_with (first | (go_at_call 18; refine (slight_to A0 a0 R true _ hR h8 HRl.out Hb.out).mono ?_; rintro e w1 ⟨rfl, rfl⟩) | (go_at_call 12; refine (awake_any _).mono ?_; rintro e w8 ⟨rfl, hE8⟩))
        go_ret
        exact ⟨rfl, by (repeat (first | (with_reducible exact Ext.refl _) | assumption | (with_reducible refine Ext.alloc ?_ _) | (with_reducible refine Ext.drew ?_) | (with_reducible refine Ext.drewL ?_) | refine Ext.trans ?_ (by assumption)))⟩
    · have Hb := Lib.hid (show decide (R.flatten.length ≤ 40) = false from decide_eq_false h40)
      clear h40
      go_wp2_with (first | (go_at_call 18; refine (slight_to A0 a0 R false _ hR h8 HRl.out Hb.out).mono ?_; rintro e w1 ⟨rfl, rfl⟩) | (go_at_call 12; refine (awake_any _).mono ?_; rintro e w8 ⟨rfl, hE8⟩))
      go_ret
      exact ⟨rfl, by (repeat (first | (with_reducible exact Ext.refl _) | assumption | (with_reducible refine Ext.alloc ?_ _) | (with_reducible refine Ext.drew ?_) | (with_reducible refine Ext.drewL ?_) | refine Ext.trans ?_ (by assumption)))⟩
  · go_wp2_with (first | (go_at_call 18; refine (slight_many A0 a0 R _ hR h8 hRn).mono ?_; rintro e w1 ⟨rfl, rfl⟩) | (go_at_call 12; refine (awake_any _).mono ?_; rintro e w8 ⟨rfl, hE8⟩))
    go_ret
    exact ⟨rfl, by (repeat (first | (with_reducible exact Ext.refl _) | assumption | (with_reducible refine Ext.alloc ?_ _) | (with_reducible refine Ext.drew ?_) | (with_reducible refine Ext.drewL ?_) | refine Ext.trans ?_ (by assumption)))⟩
end Go.Proofs.Ytljkadpconghnaa
