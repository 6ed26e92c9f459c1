/- The walks of package root and of its reference: valid tables, taking, reading, setting and dropping handles. Conditions: the ranges that each theorem states. -/
import Derived.Test.YtgjgnokfmjeekaaRows
import Derived.WalkKit
import Derived.WalkSpells
import Derived.WalkLawsBesides
import Derived.Lib.Hide
import Derived.Test.YtgjgnokfmjeekaaMem
namespace Go.Proofs.Ytgjgnokfmjeekaa
open Go.RowKit Go.Draw

theorem Try.mixed : Try.prog.follows .mixedOrders = true := by kernel_rfl
theorem ret_bool {a b : Bool} (h : a = b) : Ending.returned (.bool a) = .returned (.bool b) := by rw [h]
theorem ret_int {k : IntKind} {a b : Int} (h : a = b) : Ending.returned (.int k a) = .returned (.int k b) := by rw [h]

def bools (us : List Bool) : List Value := us.map .bool
def words (rs : List Int) : List Value := rs.map (.int .u64)

/-- an entry that is not in use holds no word -/
def okAt (us : List Bool) (rs : List Int) (j : Nat) : Bool := us.getD j true || rs.getD j 0 == 0
def validT (us : List Bool) (rs : List Int) : Bool := decide (us.length = 32) && decide (rs.length = 32) && (List.range 32).all (okAt us rs)

theorem valid_no (us : List Bool) (rs : List Int) (j : Nat) (hj : j < 32) (hu : us[j]? = some false) (r : Int) (hr : rs[j]? = some r) (h0 : (r == 0) = false) : validT us rs = false := by
  have h : okAt us rs j = false := by simp [okAt, List.getD_eq_getElem?_getD, hu, hr, h0]
  have : (List.range 32).all (okAt us rs) = false := by
    rw [List.all_eq_false]
    exact ⟨j, by simpa using hj, by simp [h]⟩
  simp [validT, this]
theorem valid_yes (us : List Bool) (rs : List Int) (h1 : us.length = 32) (h2 : rs.length = 32) (h : ∀ j, j < 32 → okAt us rs j = true) : validT us rs = true := by
  simp only [validT, h1, h2, decide_true, Bool.true_and, List.all_eq_true, List.mem_range]
  exact h

set_option maxHeartbeats 400000 in
theorem valid_any (A A' : Option Addr) (n n' c c' : Nat) (us : List Bool) (rs : List Int) (w : World) (hu : Rd w A n 1 (bools us)) (hr : Rd w A' n' 1 (words rs)) :
    Calls Try.prog 18 #[.agg #[.slice A n c, .slice A' n' c']] w fun e w' => e = .returned (.bool (validT us rs)) ∧ Ext w w' := by
  have hul : us.length = n := by have := hu.1; simpa [bools] using this
  have hrl : rs.length = n' := by have := hr.1; simpa [words] using this
  by_cases hn : n = 32
  · subst hn
    by_cases hn' : n' = 32
    · subst hn'
      obtain ⟨b, o, rfl, hcu⟩ := hu.2 (by omega)
      obtain ⟨b', o', rfl, hcr⟩ := hr.2 (by omega)
      have Hul := Lib.hid hul
      have Hrl := Lib.hid hrl
      clear hul hrl
      go_enter Try.func18, Try.ntmps18
      go_wp2
      go_loop [18] (fun i => ∃ k : Nat, k ≤ 32 ∧ i = .int .i64 k ∧ ∀ j, j < k → okAt us rs j = true) (fun i => 32 - (intOf i).toNat)
      case atStart => exact ⟨0, by omega, rfl, fun j hj => by omega⟩
      case round =>
        obtain ⟨k, hk, rfl, hd⟩ := hrel
        have Hd := Lib.hid hd
        clear hd
        by_cases hlt : k < 32
        · have hdec : decide ((k : Int) < 32) = true := by simp; omega
          obtain ⟨u, hku⟩ : ∃ u, us[k]? = some u := ⟨_, List.getElem?_eq_getElem (by rw [Hul.out]; exact hlt)⟩
          obtain ⟨r, hkr⟩ : ∃ r, rs[k]? = some r := ⟨_, List.getElem?_eq_getElem (by rw [Hrl.out]; exact hlt)⟩
          have f1 : w.cell? ⟨b, o + k, none⟩ = some (.bool u) := hcu k _ (by simp [bools, hku])
          have f2 : w.cell? ⟨b', o' + k, none⟩ = some (.int .u64 r) := hcr k _ (by simp [words, hkr])
          have g1 := cell_lt f1
          have g2 := cell_lt f2
          have Hku := Lib.hid hku
          have Hkr := Lib.hid hkr
          clear hku hkr hcu hcr hu hr
          have hok : okAt us rs k = (u || r == 0) := by simp [okAt, List.getD_eq_getElem?_getD, Hku.out, Hkr.out]
          have Hok := Lib.hid hok
          clear hok
          cases u with
          | true =>
            go_wp2
            go_round
            case rel => exact ⟨k + 1, by omega, by go_num, fun j hj => by
              by_cases e : j = k
              · subst e; rw [Hok.out]; rfl
              · exact Hd.out j (by omega)⟩
            case measure => simp [intOf]; omega
          | false =>
            by_cases h0 : r = 0
            · subst h0
              go_wp2
              go_round
              case rel => exact ⟨k + 1, by omega, by go_num, fun j hj => by
                by_cases e : j = k
                · subst e; rw [Hok.out]; rfl
                · exact Hd.out j (by omega)⟩
              case measure => simp [intOf]; omega
            · have h1 : (r == 0) = false := by simpa using h0
              have h2 : (r != 0) = true := by simpa using h0
              clear h0
              go_wp2
              go_ret
              exact ⟨ret_bool (valid_no us rs k hlt Hku.out r Hkr.out h1).symm, by (repeat (first | (with_reducible exact Ext.refl _) | assumption | (with_reducible refine Ext.alloc ?_ _) | (with_reducible refine Ext.drew ?_) | (with_reducible refine Ext.drewL ?_) | refine Ext.trans ?_ (by assumption)))⟩
        · go_wp2
          go_ret
          exact ⟨ret_bool (valid_yes us rs Hul.out Hrl.out fun j hj => Hd.out j (by omega)).symm, by (repeat (first | (with_reducible exact Ext.refl _) | assumption | (with_reducible refine Ext.alloc ?_ _) | (with_reducible refine Ext.drew ?_) | (with_reducible refine Ext.drewL ?_) | refine Ext.trans ?_ (by assumption)))⟩
    · have hv : validT us rs = false := by simp [validT, hrl, hn']
      have Hv := Lib.hid hv
      have h1 : ((n' : Int) != 32) = true := by simp; omega
      clear hu hr hul hrl hv hn'
      go_enter Try.func18, Try.ntmps18
      go_wp2
      go_ret
      exact ⟨ret_bool Hv.out.symm, by (repeat (first | (with_reducible exact Ext.refl _) | assumption | (with_reducible refine Ext.alloc ?_ _) | (with_reducible refine Ext.drew ?_) | (with_reducible refine Ext.drewL ?_) | refine Ext.trans ?_ (by assumption)))⟩
  · have hv : validT us rs = false := by simp [validT, hul, hn]
    have Hv := Lib.hid hv
    have h1 : ((n : Int) != 32) = true := by simp; omega
    clear hu hr hul hrl hv hn
    go_enter Try.func18, Try.ntmps18
    go_wp2
    go_ret
    exact ⟨ret_bool Hv.out.symm, by (repeat (first | (with_reducible exact Ext.refl _) | assumption | (with_reducible refine Ext.alloc ?_ _) | (with_reducible refine Ext.drew ?_) | (with_reducible refine Ext.drewL ?_) | refine Ext.trans ?_ (by assumption)))⟩

set_option maxHeartbeats 400000 in
theorem rvalid_any (A A' : Option Addr) (n n' c c' : Nat) (us : List Bool) (rs : List Int) (w : World) (hu : Rd w A n 1 (bools us)) (hr : Rd w A' n' 1 (words rs)) :
    Calls Try.prog 19 #[.agg #[.slice A n c, .slice A' n' c']] w fun e w' => e = .returned (.bool (validT us rs)) ∧ Ext w w' := by
  have hul : us.length = n := by have := hu.1; simpa [bools] using this
  have hrl : rs.length = n' := by have := hr.1; simpa [words] using this
  by_cases hn : n = 32
  · subst hn
    by_cases hn' : n' = 32
    · subst hn'
      obtain ⟨b, o, rfl, hcu⟩ := hu.2 (by omega)
      obtain ⟨b', o', rfl, hcr⟩ := hr.2 (by omega)
      have Hul := Lib.hid hul
      have Hrl := Lib.hid hrl
      clear hul hrl
      go_enter Try.func19, Try.ntmps19
      go_wp2
      go_loop [18] (fun i => ∃ k : Nat, k ≤ 32 ∧ i = .int .i64 k ∧ ∀ j, j < k → okAt us rs j = true) (fun i => 32 - (intOf i).toNat)
      case atStart => exact ⟨0, by omega, rfl, fun j hj => by omega⟩
      case round =>
        obtain ⟨k, hk, rfl, hd⟩ := hrel
        have Hd := Lib.hid hd
        clear hd
        by_cases hlt : k < 32
        · have hdec : decide ((k : Int) < 32) = true := by simp; omega
          obtain ⟨u, hku⟩ : ∃ u, us[k]? = some u := ⟨_, List.getElem?_eq_getElem (by rw [Hul.out]; exact hlt)⟩
          obtain ⟨r, hkr⟩ : ∃ r, rs[k]? = some r := ⟨_, List.getElem?_eq_getElem (by rw [Hrl.out]; exact hlt)⟩
          have f1 : w.cell? ⟨b, o + k, none⟩ = some (.bool u) := hcu k _ (by simp [bools, hku])
          have f2 : w.cell? ⟨b', o' + k, none⟩ = some (.int .u64 r) := hcr k _ (by simp [words, hkr])
          have g1 := cell_lt f1
          have g2 := cell_lt f2
          have Hku := Lib.hid hku
          have Hkr := Lib.hid hkr
          clear hku hkr hcu hcr hu hr
          have hok : okAt us rs k = (u || r == 0) := by simp [okAt, List.getD_eq_getElem?_getD, Hku.out, Hkr.out]
          have Hok := Lib.hid hok
          clear hok
          cases u with
          | true =>
            go_wp2
            go_round
            case rel => exact ⟨k + 1, by omega, by go_num, fun j hj => by
              by_cases e : j = k
              · subst e; rw [Hok.out]; rfl
              · exact Hd.out j (by omega)⟩
            case measure => simp [intOf]; omega
          | false =>
            by_cases h0 : r = 0
            · subst h0
              go_wp2
              go_round
              case rel => exact ⟨k + 1, by omega, by go_num, fun j hj => by
                by_cases e : j = k
                · subst e; rw [Hok.out]; rfl
                · exact Hd.out j (by omega)⟩
              case measure => simp [intOf]; omega
            · have h1 : (r == 0) = false := by simpa using h0
              have h2 : (r != 0) = true := by simpa using h0
              clear h0
              go_wp2
              go_ret
              exact ⟨ret_bool (valid_no us rs k hlt Hku.out r Hkr.out h1).symm, by (repeat (first | (with_reducible exact Ext.refl _) | assumption | (with_reducible refine Ext.alloc ?_ _) | (with_reducible refine Ext.drew ?_) | (with_reducible refine Ext.drewL ?_) | refine Ext.trans ?_ (by assumption)))⟩
        · go_wp2
          go_ret
          exact ⟨ret_bool (valid_yes us rs Hul.out Hrl.out fun j hj => Hd.out j (by omega)).symm, by (repeat (first | (with_reducible exact Ext.refl _) | assumption | (with_reducible refine Ext.alloc ?_ _) | (with_reducible refine Ext.drew ?_) | (with_reducible refine Ext.drewL ?_) | refine Ext.trans ?_ (by assumption)))⟩
    · have hv : validT us rs = false := by simp [validT, hrl, hn']
      have Hv := Lib.hid hv
      have h1 : ((n' : Int) != 32) = true := by simp; omega
      clear hu hr hul hrl hv hn'
      go_enter Try.func19, Try.ntmps19
      go_wp2
      go_ret
      exact ⟨ret_bool Hv.out.symm, by (repeat (first | (with_reducible exact Ext.refl _) | assumption | (with_reducible refine Ext.alloc ?_ _) | (with_reducible refine Ext.drew ?_) | (with_reducible refine Ext.drewL ?_) | refine Ext.trans ?_ (by assumption)))⟩
  · have hv : validT us rs = false := by simp [validT, hul, hn]
    have Hv := Lib.hid hv
    have h1 : ((n : Int) != 32) = true := by simp; omega
    clear hu hr hul hrl hv hn
    go_enter Try.func19, Try.ntmps19
    go_wp2
    go_ret
    exact ⟨ret_bool Hv.out.symm, by (repeat (first | (with_reducible exact Ext.refl _) | assumption | (with_reducible refine Ext.alloc ?_ _) | (with_reducible refine Ext.drew ?_) | (with_reducible refine Ext.drewL ?_) | refine Ext.trans ?_ (by assumption)))⟩

end Go.Proofs.Ytgjgnokfmjeekaa
