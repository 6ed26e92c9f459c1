/- The walks of the model's Index, node, object and take. Conditions: the ranges that each theorem states. -/
import Derived.Test.YtamghjilcfeheaaH
import Derived.Test.YtamghjilcfeheaaMU
namespace Go.Proofs.Ytamghjilcfeheaa
open Go.RowKit Go.Draw

def idxT (us : List Bool) : Int := if freeT us < us.length then (freeT us : Int) else -1
set_option maxHeartbeats 400000 in
theorem index46_any (A : Option Addr) (n c : Nat) (us : List Bool) (w : World) (h : Rd w A n 1 (vb us)) (hn : n ≤ 1000) :
    Calls Try.prog 46 #[.slice A n c, .bool false] w fun e w' => e = .returned (.int .i64 (idxT us)) ∧ Ext w w' := by
  have hul : us.length = n := by have := h.1; simpa [vb] using this
  have Hul := Lib.hid hul
  clear hul
  go_enter Try.func46, Try.ntmps46
  go_wp2
  go_loop [8] (fun i => ∃ k : Nat, k ≤ n ∧ i = .int .i64 k ∧ ∀ j < k, us[j]? = some true) (fun i => n - (intOf i).toNat)
  case atStart => exact ⟨0, by omega, rfl, fun j hj => by omega⟩
  case round =>
    obtain ⟨k, hk, rfl, hall⟩ := hrel
    have Hall := Lib.hid hall
    clear hall
    by_cases hlt : k < n
    · have hdec : decide ((k : Int) < n) = true := by simp; omega
      have hdec' : decide (k < n) = true := by simp; omega
      have hkb : (k : Int) < n := by omega
      obtain ⟨u, hu⟩ : ∃ u, us[k]? = some u := ⟨_, List.getElem?_eq_getElem (by have := Hul.out; omega)⟩
      obtain ⟨bb, ob, hA, hcb⟩ := h.2 (by omega)
      subst hA
      have hcell := hcb k _ (vb_at hu)
      have Hu := Lib.hid hu
      have lb := cell_lt hcell
      clear hu hcb
      cases u
      · go_wp2
        go_ret
        refine ⟨ret_int ?_, Ext.refl _⟩
        unfold idxT
        rw [freeT_at Hall.out Hu.out, if_pos (by have := Hul.out; omega)]
      · go_wp2
        go_round
        case rel => exact ⟨k + 1, by omega, by go_num, fun j hj => by
          rcases Nat.lt_or_ge j k with h | h
          · exact Hall.out j h
          · have : j = k := by omega
            subst this; exact Hu.out⟩
        case measure => simp [intOf]; omega
    · have hdec : decide ((k : Int) < n) = false := by simp; omega
      have hdec' : decide (k < n) = false := by simp; omega
      go_wp2
      go_ret
      refine ⟨ret_int ?_, Ext.refl _⟩
      unfold idxT
      rw [freeT_none (fun i hi => Hall.out i (by have := Hul.out; omega)), if_neg (by omega)]

def mNd (g : Gr) (x : Int) : Int := if hErr g x false = 0 then hNd g x else 0
set_option maxHeartbeats 400000 in
theorem node45_any (v : Value) (g : Gr) (x : Int) (w : World) (hg : GRd w v g) (hlu : g.us.length = 32) (hlr : g.rs.length = 32) :
    Calls Try.prog 45 #[v, .int .i64 x] w fun e w' => e = .returned (.tuple #[.int .i64 (mNd g x), .int .i64 (hErr g x false)]) ∧ Ext w w' := by
  obtain ⟨A, a, B, b, C, c, rfl⟩ := hg.sl
  obtain ⟨h2, h3⟩ := hg.rows
  have Hlu := Lib.hid hlu
  have Hlr := Lib.hid hlr
  have hE : Ext w (w.alloc (.cells #[.slice A g.ns.length a, .slice B g.us.length b, .slice C g.rs.length c] 26)) := by (repeat (first | (with_reducible exact Ext.refl _) | assumption | (with_reducible refine Ext.alloc ?_ _) | (with_reducible refine Ext.drew ?_) | (with_reducible refine Ext.drewL ?_) | refine Ext.trans ?_ (by assumption)))
  by_cases h0 : x = 0
  · subst h0
    rw [show mNd g 0 = -1 by unfold mNd; rw [hErr_zero]; simp [hNd_zero], hErr_zero]
    clear h2 h3 hlu hlr
    go_enter Try.func45, Try.ntmps45
    go_wp2
    go_ret2
    exact ⟨rfl, hE⟩
  · have hd0 : (x == 0) = false := by simpa using h0
    by_cases hlo : x < 1
    · have hd1 : decide (x < 1) = true := by simpa using hlo
      rw [show mNd g x = 0 by unfold mNd; rw [hErr_out g x false h0 (by omega)]; simp, hErr_out g x false h0 (by omega)]
      clear h2 h3 hlu hlr
      go_enter Try.func45, Try.ntmps45
      go_wp2
      go_ret2
      exact ⟨rfl, hE⟩
    · have hd1 : decide (x < 1) = false := by simpa using hlo
      by_cases hhi : 32 < x
      · have hd2 : decide ((g.us.length : Int) < x) = true := by simp; omega
        rw [show mNd g x = 0 by unfold mNd; rw [hErr_out g x false h0 (by omega)]; simp, hErr_out g x false h0 (by omega)]
        clear h2 h3 hlu hlr
        go_enter Try.func45, Try.ntmps45
        go_wp2
        go_ret2
        exact ⟨rfl, hE⟩
      · obtain ⟨i, rfl⟩ : ∃ i : Nat, x = (i : Int) + 1 := ⟨(x - 1).toNat, by omega⟩
        have hd2 : decide ((g.us.length : Int) < (i : Int) + 1) = false := by simp; omega
        have hi : i < 32 := by omega
        obtain ⟨u, hu⟩ : ∃ u, g.us[i]? = some u := ⟨_, List.getElem?_eq_getElem (by omega)⟩
        obtain ⟨r, hr⟩ : ∃ r, g.rs[i]? = some r := ⟨_, List.getElem?_eq_getElem (by omega)⟩
        obtain ⟨bb, ob, rfl, hcb⟩ := rd_vb (h2.ext hE) hu
        obtain ⟨bc, oc, rfl, hcc⟩ := rd_ints (h3.ext hE) hr
        have he := hErr_in g i false u hi hu
        have hN : mNd g ((i : Int) + 1) = if u then r else 0 := by
          unfold mNd
          rw [he, hNd_in g i r hr]
          cases u <;> simp
        rw [hN, he]
        have b1 : (i : Int) + 1 - 1 = i := by omega
        have b2 : i < g.us.length := by omega
        have b3 : (i : Int) < g.us.length := by omega
        have b4 : i < g.rs.length := by omega
        have b5 : (i : Int) < g.rs.length := by omega
        have lb := cell_lt hcb
        have lc := cell_lt hcc
        clear h2 h3 hu hr he hN hlu hlr hg
        cases u
        all_goals
          go_enter Try.func45, Try.ntmps45
          go_wp2
          go_ret2
          exact ⟨rfl, hE⟩
end Go.Proofs.Ytamghjilcfeheaa
