/- The walk of the law RootApart. Conditions: the ranges that each theorem states. -/
import Derived.Test.YtgjgnokfmjeekaaR
namespace Go.Proofs.Ytgjgnokfmjeekaa
open Go.RowKit Go.Draw

theorem mod_to (v n : Int) (i : Nat) (w : World) (h1 : 1 ≤ n) (h2 : n ≤ 9223372036854775807) (h : v % n = (i : Int)) :
    Calls Try.prog 17 #[.int .i64 v, .int .i64 n] w fun e w' => e = .returned (.int .i64 (i : Int)) ∧ w = w' := by
  rw [← h]; exact mod_any v n w h1 h2
theorem mod_ex (v : Int) (L : Nat) (h : L ≠ 0) : ∃ i : Nat, v % (L : Int) = (i : Int) ∧ i < L := by
  have h1 := Int.emod_nonneg v (show (L : Int) ≠ 0 by omega)
  have h2 := Int.emod_lt_of_pos v (show (0 : Int) < L by omega)
  exact ⟨(v % (L : Int)).toNat, by omega, by omega⟩
set_option maxRecDepth 100000 in
set_option maxHeartbeats 2000000 in
theorem apart_any (A : Option Addr) (n c : Nat) (zs : List Int) (h k v : Int) (w : World) (hz : Rd w A n 1 (ints zs)) (hn : n ≤ 9223372036854775807) :
    Calls Try.prog 5 #[.slice A n c, .int .i64 h, .int .i64 k, .int .u64 v] w fun r w' => r = .returned (.bool true) ∧ Ext w w' := by
  go_enter Try.func5, Try.ntmps5
  go_wp2_with fail
  go_at_call 8
  refine (deck_any A n c zs _ hz hn).mono ?_
  rintro e w1 ⟨rfl, hD, hE⟩
  go_wp2_with fail
  go_at_call 15
  refine (table_any _ _ hD).mono ?_
  rintro e w2 ⟨g, g', c2, c2', us, rs, rfl, hu, hr, hv, _, hB⟩
  have hE2 : Ext w w2 := But.ext hE hB (by simp)
  clear hD hB hE hz
  obtain ⟨hul, hrl⟩ := valid_len hv
  go_wp2_with fail
  go_at_call 21
  refine (live_any _ _ _ _ _ _ us _ (hu.ext (by (repeat (first | (with_reducible exact Ext.refl _) | assumption | (with_reducible refine Ext.alloc ?_ _) | (with_reducible refine Ext.drew ?_) | (with_reducible refine Ext.drewL ?_) | refine Ext.trans ?_ (by assumption))))) (by omega)).mono ?_
  rintro e w3 ⟨A3, c3, rfl, hl, hE3⟩
  have hE23 : Ext w2 w3 := Ext.trans (by (repeat (first | (with_reducible exact Ext.refl _) | assumption | (with_reducible refine Ext.alloc ?_ _) | (with_reducible refine Ext.drew ?_) | (with_reducible refine Ext.drewL ?_) | refine Ext.trans ?_ (by assumption)))) hE3
  have k9 : Blk w3 w2.heap.size 30 #[.slice (some ⟨g, 0, none⟩) 32 c2, .slice (some ⟨g', 0, none⟩) 32 c2'] := (Blk.new rfl).ext hE3
  have hu3 := hu.ext hE23
  have hr3 := hr.ext hE23
  have hl3 := Rd.of_own hl
  have hE03 := hE2.trans hE23
  have hc9 := k9.cell
  have hb9 := k9.lt
  clear hE3 hE23 hE2 hu hr hl
  have hlen := liveTo_len us 32
  obtain ⟨us4, rs4, h4, er, ht, hcase⟩ : ∃ us4 rs4 h4 er, takeT us rs v = (us4, rs4, h4, er) ∧
      ((us.idxOf false < us.length ∧ us4 = us.set (us.idxOf false) true ∧ rs4 = rs.set (us.idxOf false) v ∧ h4 = (us.idxOf false : Int) + 1 ∧ er = 0) ∨ ((liveTo us 32).length = 32 ∧ er = 15)) := by
    by_cases hf : us.idxOf false < us.length
    · exact ⟨_, _, _, _, by simp only [takeT, hv, if_true, if_pos hf], .inl ⟨hf, rfl, rfl, rfl, rfl⟩⟩
    · exact ⟨[], [], 0, 15, by simp only [takeT, hv, if_true, if_neg hf], .inr ⟨live_all fun j hj => free_none hf j (by omega), rfl⟩⟩
  have Hc := Lib.hid hcase
  have Hv := Lib.hid hv
  have Hul := Lib.hid hul
  have Hrl := Lib.hid hrl
  generalize hL : (liveTo us 32).length = L at *
  have HL := Lib.hid hL
  clear hcase hv hul hrl hL
  go_wp2_with fail
  go_at_call 12
  refine (take_any _ _ _ _ _ _ us rs v _ hu3 hr3).mono ?_
  rw [ht]
  rintro e w4 ⟨A4, c4, B4, d4, rfl, hA4, hB4, hE4⟩
  simp only at hA4 hB4
  clear ht
  have c94 := (k9.ext hE4).cell
  have b4 := hE4.size_le
  go_upto_if 36 with fail
  go_cut [] (fun wx => Ext w3 wx)
  case first =>
    rcases Hc.out with ⟨hf, rfl, rfl, rfl, rfl⟩ | ⟨hl32, rfl⟩
    · have hi32 : us.idxOf false < 32 := by have := Hul.out; omega
      have hbk := back (v := v) Hv.out hf
      have hm : (liveTo (us.set (us.idxOf false) true) 32).length = L + 1 := by rw [live_more hf (free_at hf) hi32, HL.out]
      have hl5 : (us.set (us.idxOf false) true).length = 32 := by simp [Hul.out]
      have hl6 : (rs.set (us.idxOf false) v).length = 32 := by simp [Hrl.out]
      generalize us.set (us.idxOf false) true = us5 at *
      generalize rs.set (us.idxOf false) v = rs5 at *
      generalize us.idxOf false = i at *
      obtain ⟨hl5', hl6'⟩ := And.intro hl5 hl6
      rw [hl5'] at hA4
      rw [hl6'] at hB4
      rw [hl5', hl6']
      have hu4 := Rd.of_own hA4
      have hr4 := Rd.of_own hB4
      have k11 : Blk (w4.alloc (.cells #[.slice A4 32 c4, .slice B4 32 d4] 30)) w4.heap.size 30 #[.slice A4 32 c4, .slice B4 32 d4] := Blk.new rfl
      have Hm := Lib.hid hm
      clear hm hl5 hl6 hl5' hl6' hA4 hB4 hf
      go_wp2_with fail
      go_at_call 13
      refine (drop_any _ _ _ _ _ _ us5 rs5 _ _ (hu4.ext (by (repeat (first | (with_reducible exact Ext.refl _) | assumption | (with_reducible refine Ext.alloc ?_ _) | (with_reducible refine Ext.drew ?_) | (with_reducible refine Ext.drewL ?_) | refine Ext.trans ?_ (by assumption))))) (hr4.ext (by (repeat (first | (with_reducible exact Ext.refl _) | assumption | (with_reducible refine Ext.alloc ?_ _) | (with_reducible refine Ext.drew ?_) | (with_reducible refine Ext.drewL ?_) | refine Ext.trans ?_ (by assumption)))))).mono ?_
      rw [hbk]
      rintro e w5 ⟨A5, c5, B5, d5, rfl, hA5, hB5, hE5⟩
      simp only at hA5 hB5
      clear hbk
      have hE45 : Ext w4 w5 := Ext.trans (by (repeat (first | (with_reducible exact Ext.refl _) | assumption | (with_reducible refine Ext.alloc ?_ _) | (with_reducible refine Ext.drew ?_) | (with_reducible refine Ext.drewL ?_) | refine Ext.trans ?_ (by assumption)))) hE5
      have k95 := ((k9.ext hE4).ext hE45)
      have k115 := k11.ext hE5
      have hu5 := Rd.of_own hA5
      have hr5 := Rd.of_own hB5
      rw [Hul.out] at hu5
      rw [Hrl.out] at hr5
      rw [Hul.out, Hrl.out]
      have c95 := k95.cell
      have b95 := k95.lt
      have hdd : decide (us = us ∧ rs = rs) = true := by simp
      clear hA5 hB5
      go_wp2_with (first | (go_at_call 24; refine (same_any _ _ _ _ _ _ _ _ _ _ _ _ us us rs rs _ (hu5.ext (by (repeat (first | (with_reducible exact Ext.refl _) | assumption | (with_reducible refine Ext.alloc ?_ _) | (with_reducible refine Ext.drew ?_) | (with_reducible refine Ext.drewL ?_) | refine Ext.trans ?_ (by assumption))))) (hr5.ext (by (repeat (first | (with_reducible exact Ext.refl _) | assumption | (with_reducible refine Ext.alloc ?_ _) | (with_reducible refine Ext.drew ?_) | (with_reducible refine Ext.drewL ?_) | refine Ext.trans ?_ (by assumption))))) (hu3.ext (by (repeat (first | (with_reducible exact Ext.refl _) | assumption | (with_reducible refine Ext.alloc ?_ _) | (with_reducible refine Ext.drew ?_) | (with_reducible refine Ext.drewL ?_) | refine Ext.trans ?_ (by assumption))))) (hr3.ext (by (repeat (first | (with_reducible exact Ext.refl _) | assumption | (with_reducible refine Ext.alloc ?_ _) | (with_reducible refine Ext.drew ?_) | (with_reducible refine Ext.drewL ?_) | refine Ext.trans ?_ (by assumption))))) (by omega) (by omega) (by omega) (by omega)).mono ?_; rintro e w1 ⟨rfl, hE6⟩; have c116 := (k115.ext (Ext.trans (by (repeat (first | (with_reducible exact Ext.refl _) | assumption | (with_reducible refine Ext.alloc ?_ _) | (with_reducible refine Ext.drew ?_) | (with_reducible refine Ext.drewL ?_) | refine Ext.trans ?_ (by assumption)))) hE6)).cell; have b116 := (k115.ext (Ext.trans (by (repeat (first | (with_reducible exact Ext.refl _) | assumption | (with_reducible refine Ext.alloc ?_ _) | (with_reducible refine Ext.drew ?_) | (with_reducible refine Ext.drewL ?_) | refine Ext.trans ?_ (by assumption)))) hE6)).lt) | (go_at_call 21; refine (live_any _ _ _ _ _ _ us5 _ (hu4.ext (by (repeat (first | (with_reducible exact Ext.refl _) | assumption | (with_reducible refine Ext.alloc ?_ _) | (with_reducible refine Ext.drew ?_) | (with_reducible refine Ext.drewL ?_) | refine Ext.trans ?_ (by assumption))))) (by omega)).mono ?_; rintro e w1 ⟨A7, c7, rfl, hl7, hE7⟩; rw [Hm.out]))
      go_meet
      exact Ext.trans hE4 (Ext.trans hE45 (Ext.trans (Ext.trans (by (repeat (first | (with_reducible exact Ext.refl _) | assumption | (with_reducible refine Ext.alloc ?_ _) | (with_reducible refine Ext.drew ?_) | (with_reducible refine Ext.drewL ?_) | refine Ext.trans ?_ (by assumption)))) hE6) (Ext.trans (by (repeat (first | (with_reducible exact Ext.refl _) | assumption | (with_reducible refine Ext.alloc ?_ _) | (with_reducible refine Ext.drew ?_) | (with_reducible refine Ext.drewL ?_) | refine Ext.trans ?_ (by assumption)))) hE7)))
    · have hb : ((L : Int) != 32) = false := by simp; omega
      clear hl32
      go_wp2
      go_meet
      exact Ext.trans hE4 (by (repeat (first | (with_reducible exact Ext.refl _) | assumption | (with_reducible refine Ext.alloc ?_ _) | (with_reducible refine Ext.drew ?_) | (with_reducible refine Ext.drewL ?_) | refine Ext.trans ?_ (by assumption))))
  case rest =>
    have k9 := k9.ext hcut
    have hu := hu3.ext hcut
    have hr := hr3.ext hcut
    have hl := hl3.ext hcut
    have hE := hE03.trans hcut
    clear hE4 hcut hu3 hr3 hl3 hE03 hc9 hb9 c94 b4 Hc hA4 hB4
    by_cases hL0 : L = 0
    · have hb : ((L : Int) == 0) = true := by simp; omega
      clear hL0
      go_wp2_with (go_at_call 7; refine (awake_any _).mono ?_; rintro e w7 ⟨rfl, hE7⟩)
      go_ret
      exact ⟨rfl, hE.trans hE7⟩
    · have hb : ((L : Int) == 0) = false := by simp; omega
      obtain ⟨i, hi, hiL⟩ := mod_ex h L hL0
      obtain ⟨j, hj, hjL⟩ := mod_ex k L hL0
      obtain ⟨b3, o3, p, rfl, hp, fp⟩ := hl.at_ hiL
      obtain ⟨b3', o3', q, he, hq, fq⟩ := hl.at_ hjL
      simp only [Option.some.injEq, Addr.mk.injEq, and_true] at he
      obtain ⟨rfl, rfl⟩ := he
      simp only [ints, List.getElem?_map, Option.map_eq_some_iff] at hp hq
      obtain ⟨p, hp, rfl⟩ := hp
      obtain ⟨q, hq, rfl⟩ := hq
      obtain ⟨ip, hip, rfl, hup⟩ := live_at hp
      obtain ⟨iq, hiq, rfl, huq⟩ := live_at hq
      obtain ⟨hset, hget, hget2⟩ := apart_val (v := v) Hv.out hip hiq hup huq
      have Hi := Lib.hid hi
      have Hj := Lib.hid hj
      generalize hx0 : rs.getD iq 0 = x at hget hget2
      generalize hy : (if ip = iq then v else x) = y at hget
      have Hy := Lib.hid hy
      clear hy hx0
      have hiI : (i : Int) < L := by omega
      have hjI : (j : Int) < L := by omega
      clear hi hj hp hq hup huq hl hL0
      go_upto_region 12 with fail
      refine wp_region_ext [(true, 0), (true, 1), (true, 2), (true, 3), (true, 4), (true, 5), (true, 6), (true, 7), (true, 8), (true, 9), (true, 10), (true, 11), (true, 12), (true, 13), (true, 14), (true, 15)] Try.mixed (by kernel_rfl) (by simp only [pick, List.filterMap_cons, List.filterMap_nil, List.getElem?_toArray, List.getElem?_cons_succ, List.getElem?_cons_zero, Option.map_some]; rfl) ?_
      intro hx
      repeat (first
        | (refine wpL_take hx (v := ?_) (by rfl) (fun _ hc => ?_) ?_
           rotate_left
           focus (go_simp; (try go_ints); exact rfl)
           simp only [Act.put, List.setIfInBounds_toArray, List.set_cons_zero, List.set_cons_succ])
        | (refine wpL_quiet 17 (args := ?_) (v := ?_) (by rfl) (fun _ => ?_) (fun _ => ?_) ?_; rotate_left 2; (focus (go_simp; exact rfl)); (focus (refine (mod_to _ _ _ _ (by omega) (by omega) (by with_reducible first | exact Hi.out | exact Hj.out)).mono ?_; rintro _ _ ⟨rfl, rfl⟩; refine ⟨?_, ?_⟩ <;> exact rfl)); simp only [Act.put, List.setIfInBounds_toArray, List.set_cons_zero, List.set_cons_succ])
        | (refine wpL_skip (by rfl) ?_; simp only [Act.put, List.setIfInBounds_toArray, List.set_cons_zero, List.set_cons_succ])
        | (refine wpL_call (by rfl) (fun K hK => ?_); go_simp; go_at_call 17; refine (mod_to _ _ _ _ (by omega) (by omega) (by with_reducible first | exact Hi.out | exact Hj.out)).mono ?_; rintro e w1 ⟨rfl, rfl⟩; refine hK _ _ (Ext.refl _) ?_; clear hK; intro hr; replace hx := hx.trans hr; clear hr; simp only [Act.put, List.setIfInBounds_toArray, List.set_cons_zero, List.set_cons_succ])
        | (refine wpL_call (by rfl) (fun K hK => ?_); go_simp; (first | (refine hK _ _ ?_ ?_; (focus ((repeat (first | (with_reducible exact Ext.refl _) | assumption | (with_reducible refine Ext.alloc ?_ _) | (with_reducible refine Ext.drew ?_) | (with_reducible refine Ext.drewL ?_) | refine Ext.trans ?_ (by assumption))); done))) | (refine hK undef _ ?_ ?_; (focus ((repeat (first | (with_reducible exact Ext.refl _) | assumption | (with_reducible refine Ext.alloc ?_ _) | (with_reducible refine Ext.drew ?_) | (with_reducible refine Ext.drewL ?_) | refine Ext.trans ?_ (by assumption))); done)))); clear hK; intro hr; replace hx := hx.trans hr; clear hr; try simp only [Act.put, List.setIfInBounds_toArray, List.set_cons_zero, List.set_cons_succ]))
      refine wpL_end ?_
      have c9 := k9.cell
      have b9 := k9.lt
      clear hx
      go_wp2_with fail
      go_at_call 26
      refine (set_any _ _ _ _ _ _ us rs _ v _ (hu.ext (by (repeat (first | (with_reducible exact Ext.refl _) | assumption | (with_reducible refine Ext.alloc ?_ _) | (with_reducible refine Ext.drew ?_) | (with_reducible refine Ext.drewL ?_) | refine Ext.trans ?_ (by assumption))))) (hr.ext (by (repeat (first | (with_reducible exact Ext.refl _) | assumption | (with_reducible refine Ext.alloc ?_ _) | (with_reducible refine Ext.drew ?_) | (with_reducible refine Ext.drewL ?_) | refine Ext.trans ?_ (by assumption)))))).mono ?_
      rw [hset]
      rintro e w6 ⟨A6, c6, B6, d6, rfl, hA6, hB6, hE6⟩
      simp only [List.length_set] at hA6 hB6
      rw [Hul.out] at hA6
      rw [Hrl.out] at hB6
      simp only [List.length_set]
      rw [Hul.out, Hrl.out]
      have hu6 := Rd.of_own hA6
      have hr6 := Rd.of_own hB6
      have hE06 : Ext wc w6 := Ext.trans (by (repeat (first | (with_reducible exact Ext.refl _) | assumption | (with_reducible refine Ext.alloc ?_ _) | (with_reducible refine Ext.drew ?_) | (with_reducible refine Ext.drewL ?_) | refine Ext.trans ?_ (by assumption)))) hE6
      have hu := hu.ext hE06
      have hr := hr.ext hE06
      have k9 := k9.ext hE06
      have c9 := k9.cell
      have b9 := k9.lt
      have hE := hE.trans hE06
      clear hset hA6 hB6 hE6 hE06
      go_wp2_with fail
      go_at_call 14
      refine (get_any _ _ _ _ _ _ us _ _ _ (hu6.ext (by (repeat (first | (with_reducible exact Ext.refl _) | assumption | (with_reducible refine Ext.alloc ?_ _) | (with_reducible refine Ext.drew ?_) | (with_reducible refine Ext.drewL ?_) | refine Ext.trans ?_ (by assumption))))) (hr6.ext (by (repeat (first | (with_reducible exact Ext.refl _) | assumption | (with_reducible refine Ext.alloc ?_ _) | (with_reducible refine Ext.drew ?_) | (with_reducible refine Ext.drewL ?_) | refine Ext.trans ?_ (by assumption)))))).mono ?_
      rw [hget]
      rintro e w7 ⟨rfl, hE7⟩
      have hE67 : Ext w6 w7 := Ext.trans (by (repeat (first | (with_reducible exact Ext.refl _) | assumption | (with_reducible refine Ext.alloc ?_ _) | (with_reducible refine Ext.drew ?_) | (with_reducible refine Ext.drewL ?_) | refine Ext.trans ?_ (by assumption)))) hE7
      have hu := hu.ext hE67
      have hr := hr.ext hE67
      have k9 := k9.ext hE67
      have c9 := k9.cell
      have b9 := k9.lt
      have hE := hE.trans hE67
      clear hget hE67 hE7 hu6 hr6
      go_wp2_with fail
      go_at_call 14
      refine (get_any _ _ _ _ _ _ us _ _ _ (hu.ext (by (repeat (first | (with_reducible exact Ext.refl _) | assumption | (with_reducible refine Ext.alloc ?_ _) | (with_reducible refine Ext.drew ?_) | (with_reducible refine Ext.drewL ?_) | refine Ext.trans ?_ (by assumption))))) (hr.ext (by (repeat (first | (with_reducible exact Ext.refl _) | assumption | (with_reducible refine Ext.alloc ?_ _) | (with_reducible refine Ext.drew ?_) | (with_reducible refine Ext.drewL ?_) | refine Ext.trans ?_ (by assumption)))))).mono ?_
      rw [hget2]
      rintro e w8 ⟨rfl, hE8⟩
      clear hget2
      by_cases hpq : ip = iq
      · subst hpq
        obtain rfl : v = y := by have := Hy.out; rwa [if_pos rfl] at this
        go_wp2
        go_ret
        exact ⟨rfl, hE.trans (Ext.trans (by (repeat (first | (with_reducible exact Ext.refl _) | assumption | (with_reducible refine Ext.alloc ?_ _) | (with_reducible refine Ext.drew ?_) | (with_reducible refine Ext.drewL ?_) | refine Ext.trans ?_ (by assumption)))) hE8)⟩
      · have h1 : ((ip : Int) + 1 == (iq : Int) + 1) = false := by simp; omega
        have h2 : ((ip : Int) + 1 != (iq : Int) + 1) = true := by simp; omega
        have h3 : ((ip : Int) == (iq : Int)) = false := by simp; omega
        have h4 : ((ip : Int) != (iq : Int)) = true := by simp; omega
        have h5 : (ip == iq) = false := by simp; omega
        have h6 : (ip != iq) = true := by simp; omega
        obtain rfl : x = y := by have := Hy.out; rwa [if_neg hpq] at this
        clear hpq
        go_wp2
        go_ret
        exact ⟨rfl, hE.trans (Ext.trans (by (repeat (first | (with_reducible exact Ext.refl _) | assumption | (with_reducible refine Ext.alloc ?_ _) | (with_reducible refine Ext.drew ?_) | (with_reducible refine Ext.drewL ?_) | refine Ext.trans ?_ (by assumption)))) hE8)⟩
end Go.Proofs.Ytgjgnokfmjeekaa
