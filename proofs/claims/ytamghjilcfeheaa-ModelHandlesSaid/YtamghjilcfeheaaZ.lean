/- The walk of the choice of a handle. Conditions: the ranges that each theorem states. -/
import Derived.Test.YtamghjilcfeheaaKK
namespace Go.Proofs.Ytamghjilcfeheaa
open Go.RowKit Go.Draw

theorem but_undrew {S : List Nat} {a b : World} (h : But S a.drew b) : But S a b := ⟨h.os, h.tape, h.output, h.size, h.block⟩
theorem rd_but' {w w' : World} {A : Option Addr} {n size d : Nat} {xs : List Value} (h : Rd w A n size xs) (he : But [d] w w') (hS : 0 < n → ∀ ad, A = some ad → ad.block ≠ d) : Rd w' A n size xs :=
  rd_but h he (fun h0 ad h => by simp only [List.mem_singleton]; exact hS h0 ad h)
set_option maxHeartbeats 1000000 in
theorem h31_any (n u d m c : Nat) (U : Option Addr) (us : List Int) (w : World) (ku : Blk w u 22 #[.slice U m c]) (kd : Blk w n 28 #[.pointer (some ⟨d, 0, none⟩)]) (hD : Dk w d) (hr : Rd w U m 1 (ints us)) (hU : 0 < m → ∀ ad, U = some ad → ad.block ≠ d) (hm : m ≤ 1000) (hdu : u ≠ d) (hdn : n ≠ d) :
    Calls Try.prog 31 #[.pointer (some ⟨u, 0, none⟩), .pointer (some ⟨n, 0, none⟩)] w fun r w' => ∃ x, r = .returned (.int .i64 x) ∧ Dk w' d ∧ But [d] w w' := by
  have m0 := ku.cell
  have m1 := kd.cell
  have hud : u ∉ [d] := by simpa using hdu
  have hnd : n ∉ [d] := by simpa using hdn
  by_cases h0 : m = 0
  · subst h0
    go_enter Try.func31, Try.ntmps31
    go_wp2_with (first | (go_at_call 26; refine (next_any d _ _ (by assumption) (by omega) (by omega)).mono ?_; rintro e w1 ⟨x, rfl, hx0, hx1, hDk, hB⟩))
    go_ret
    exact ⟨x, rfl, hDk, hB⟩
  · have hd0 : (m == 0) = false := by simpa using h0
    have hd1 : ((m : Int) == 0) = false := by simp; omega
    go_enter Try.func31, Try.ntmps31
    go_upto_region 2 with (go_at_call 26; refine (next_any d _ _ (by assumption) (by omega) (by omega)).mono ?_; rintro e w1 ⟨z, rfl, hx0, hx1, hDk, hB⟩; cases hz : (z == 0)) 
    · have c0 := (ku.but hB hud).cell
      have c1 := (kd.but hB hnd).cell
      have hr1 := rd_but' hr hB hU
      obtain ⟨bU, oU, rfl, hcU⟩ := hr1.2 (by omega)
      have hbU : bU ≠ d := hU (by omega) _ rfl
      have hml := hr.1
      rw [ints_len, Nat.mul_one] at hml
      refine wp_region_treeB [d] (.take 0 (.take 1 (.take 2 (.take 3 (.alt 4 (.take 5 (.take 6 (.take 7 .done))) .none))))) Try.mixed (by kernel_rfl) ?_
      intro hx hy
      first
        | (refine wpT_takeB hx (v := ?_) (List.getElem?_toArray.trans (by rfl)) (by rfl) (fun _ hc => ?_) ?_
           rotate_left
           focus (go_simp; (try go_ints); exact rfl)
           simp only [Act.put, List.setIfInBounds_toArray, List.set_cons_zero, List.set_cons_succ])
        | (refine wpT_skip (List.getElem?_toArray.trans (by rfl)) (by rfl) ?_; simp only [Act.put, List.setIfInBounds_toArray, List.set_cons_zero, List.set_cons_succ])
      first
        | (refine wpT_takeB hx (v := ?_) (List.getElem?_toArray.trans (by rfl)) (by rfl) (fun _ hc => ?_) ?_
           rotate_left
           focus (go_simp; (try go_ints); exact rfl)
           simp only [Act.put, List.setIfInBounds_toArray, List.set_cons_zero, List.set_cons_succ])
        | (refine wpT_skip (List.getElem?_toArray.trans (by rfl)) (by rfl) ?_; simp only [Act.put, List.setIfInBounds_toArray, List.set_cons_zero, List.set_cons_succ])
      first
        | (refine wpT_takeB hx (v := ?_) (List.getElem?_toArray.trans (by rfl)) (by rfl) (fun _ hc => ?_) ?_
           rotate_left
           focus (go_simp; (try go_ints); exact rfl)
           simp only [Act.put, List.setIfInBounds_toArray, List.set_cons_zero, List.set_cons_succ])
        | (refine wpT_skip (List.getElem?_toArray.trans (by rfl)) (by rfl) ?_; simp only [Act.put, List.setIfInBounds_toArray, List.set_cons_zero, List.set_cons_succ])
      first
        | (refine wpT_takeB hx (v := ?_) (List.getElem?_toArray.trans (by rfl)) (by rfl) (fun _ hc => ?_) ?_
           rotate_left
           focus (go_simp; (try go_ints); exact rfl)
           simp only [Act.put, List.setIfInBounds_toArray, List.set_cons_zero, List.set_cons_succ])
        | (refine wpT_skip (List.getElem?_toArray.trans (by rfl)) (by rfl) ?_; simp only [Act.put, List.setIfInBounds_toArray, List.set_cons_zero, List.set_cons_succ])
      refine wpT_call (List.getElem?_toArray.trans (by rfl)) (by rfl) (fun K hK => ?_) ?_
      · skip
        go_simp
        go_at_call 26
        refine (next_any d m _ (hDk.ext (Ext.drew (Ext.refl _))) (by omega) (by omega)).mono ?_
        rintro e w1 ⟨x, rfl, hy0, hy1, hDk2, hB2⟩; (obtain ⟨i, rfl⟩ : ∃ i : Nat, x = i := ⟨x.toNat, by omega⟩); (obtain ⟨y, hy⟩ : ∃ y, us[i]? = some y := ⟨_, List.getElem?_eq_getElem (by omega)⟩); have hci := hcU i _ (ints_at hy); have hli := cell_lt hci; have hi1 : i < m := (by omega)
        refine hK _ _ (But.trans hB2 (But.refl _ _)) ?_
        clear hK
        intro hr
        replace hx := hx.trans hr
        clear hr
        try simp only [Act.put, List.setIfInBounds_toArray, List.set_cons_zero, List.set_cons_succ]
        first
          | (refine wpT_takeB hx (v := ?_) (List.getElem?_toArray.trans (by rfl)) (by rfl) (fun _ hc => ?_) ?_
             rotate_left
             focus (go_simp; (try go_ints); exact rfl)
             simp only [Act.put, List.setIfInBounds_toArray, List.set_cons_zero, List.set_cons_succ])
          | (refine wpT_skip (List.getElem?_toArray.trans (by rfl)) (by rfl) ?_; simp only [Act.put, List.setIfInBounds_toArray, List.set_cons_zero, List.set_cons_succ])
        first
          | (refine wpT_takeB hx (v := ?_) (List.getElem?_toArray.trans (by rfl)) (by rfl) (fun _ hc => ?_) ?_
             rotate_left
             focus (go_simp; (try go_ints); exact rfl)
             simp only [Act.put, List.setIfInBounds_toArray, List.set_cons_zero, List.set_cons_succ])
          | (refine wpT_skip (List.getElem?_toArray.trans (by rfl)) (by rfl) ?_; simp only [Act.put, List.setIfInBounds_toArray, List.set_cons_zero, List.set_cons_succ])
        first
          | (refine wpT_takeB hx (v := ?_) (List.getElem?_toArray.trans (by rfl)) (by rfl) (fun _ hc => ?_) ?_
             rotate_left
             focus (go_simp; (try go_ints); exact rfl)
             simp only [Act.put, List.setIfInBounds_toArray, List.set_cons_zero, List.set_cons_succ])
          | (refine wpT_skip (List.getElem?_toArray.trans (by rfl)) (by rfl) ?_; simp only [Act.put, List.setIfInBounds_toArray, List.set_cons_zero, List.set_cons_succ])
        refine wpT_done ?_
        go_wp2
        go_ret
        exact ⟨y, rfl, hDk2, hB.trans (by first | exact but_undrew hB2 | exact but_undrew (but_undrew hB2))⟩
      exact wpT_none
    · have c0 := (ku.but hB hud).cell
      have c1 := (kd.but hB hnd).cell
      go_wp2_with (go_at_call 26; refine (next_any d _ _ hDk (by omega) (by omega)).mono ?_; rintro e w2 ⟨y, rfl, hy0, hy1, hDk2, hB2⟩)
      go_ret
      exact ⟨y, rfl, hDk2, hB.trans hB2⟩
end Go.Proofs.Ytamghjilcfeheaa
