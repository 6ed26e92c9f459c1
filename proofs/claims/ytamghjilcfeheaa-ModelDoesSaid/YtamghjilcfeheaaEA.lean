/- The walks of Light and SameInts. Conditions: the sizes that each theorem states. -/
import Derived.Test.YtamghjilcfeheaaCJ
namespace Go.Proofs.Ytamghjilcfeheaa
open Go.RowKit Go.Draw

/-- what Light tells -/
def LightR (g : Gr) (w : World) (r : Ending) (w' : World) : Prop := ∃ b : Bool, r = .returned (.bool b) ∧ (b = true → g.ns.length ≤ 100 ∧ g.us.length ≤ 100 ∧ g.rs.length ≤ 100) ∧ Ext w w'
set_option maxRecDepth 100000 in
set_option maxHeartbeats 2000000 in
theorem light12_any (v : Value) (g : Gr) (w : World) (hg : GRd w v g) (hn : g.ns.length ≤ 9223372036854775807) :
    Calls Try.prog 12 #[v] w (LightR g w) := by
  obtain ⟨A0, a0, B0, b0, C0, c0, rfl⟩ := hg.sl
  have hX := Ext.alloc (Ext.refl w) (.cells #[.slice A0 g.ns.length a0, .slice B0 g.us.length b0, .slice C0 g.rs.length c0] 26)
  go_enter Try.func12, Try.ntmps12
  go_upto_region 1 with fail
  have k1 : Blk (w.alloc (.cells #[.slice A0 g.ns.length a0, .slice B0 g.us.length b0, .slice C0 g.rs.length c0] 26)) w.heap.size 26 #[.slice A0 g.ns.length a0, .slice B0 g.us.length b0, .slice C0 g.rs.length c0] := Blk.new rfl
  generalize w.alloc (.cells #[.slice A0 g.ns.length a0, .slice B0 g.us.length b0, .slice C0 g.rs.length c0] 26) = W at hX k1 ⊢
  have hgW := hg.ext hX
  have m1 := k1.cell
  have l1 := k1.lt
  have bn : (g.ns.length : Int) ≤ 9223372036854775807 := by omega
  go_wp2_with fail
  go_loopw [3, 9] (fun t i wr => ∃ (k : Nat) (z : Int), k ≤ g.ns.length ∧ i = .int .i64 k ∧ t = .int .i64 z ∧ Ext W wr) (fun _ i _ => g.ns.length - (intOf i).toNat)
  case atStart => exact ⟨0, 0, by omega, rfl, rfl, Ext.refl _⟩
  case round =>
    clear m1
    obtain ⟨k, z, hk, rfl, rfl, hE⟩ := hrel
    have m1 := (k1.ext hE).cell
    by_cases hlt : k < g.ns.length
    · have hdec : decide ((k : Int) < g.ns.length) = true := by simp; omega
      have hdec' : decide (k < g.ns.length) = true := by simp; omega
      have hkb : (k : Int) < g.ns.length := by omega
      obtain ⟨x, hx0⟩ : ∃ x, g.ns[k]? = some x := ⟨_, List.getElem?_eq_getElem hlt⟩
      obtain ⟨ba, oa, R, cR, D, cD, hAA, q0, q1, hR, hD, _⟩ := hgW.node hx0
      cases hAA
      replace q0 := cell_ext hE q0
      replace q1 := cell_ext hE q1
      have lq := cell_lt q0
      clear hx0 hR hD
      go_wp2
      go_roundw
      case rel => exact ⟨k + 1, _, by omega, by go_num, rfl, by (repeat (first | (with_reducible exact Ext.refl _) | assumption | (with_reducible refine Ext.alloc ?_ _) | (with_reducible refine Ext.drew ?_) | (with_reducible refine Ext.drewL ?_) | refine Ext.trans ?_ (by assumption)))⟩
      case measure => simp [intOf]; omega
    · have hdec : decide ((k : Int) < g.ns.length) = false := by simp; omega
      have hdec' : decide (k < g.ns.length) = false := by simp; omega
      by_cases h1 : (g.ns.length : Int) ≤ 100
      · have e1 : decide ((g.ns.length : Int) ≤ 100) = true := by simpa using h1
        have e1' : decide (g.ns.length ≤ 100) = true := by simp; omega
        by_cases h2 : z ≤ 2000
        · have e2 : decide (z ≤ 2000) = true := by simpa using h2
          by_cases h3 : (g.us.length : Int) ≤ 100
          · have e3 : decide ((g.us.length : Int) ≤ 100) = true := by simpa using h3
            have e3' : decide (g.us.length ≤ 100) = true := by simp; omega
            by_cases h4 : (g.rs.length : Int) ≤ 100
            · have e4 : decide ((g.rs.length : Int) ≤ 100) = true := by simpa using h4
              have e4' : decide (g.rs.length ≤ 100) = true := by simp; omega
              go_wp2
              go_ret
              exact ⟨true, rfl, fun _ => ⟨by omega, by omega, by omega⟩, hX.trans hE⟩
            · have e4 : decide ((g.rs.length : Int) ≤ 100) = false := by simpa using h4
              have e4' : decide (g.rs.length ≤ 100) = false := by simp; omega
              go_wp2
              go_ret
              exact ⟨false, rfl, (fun h => by cases h), hX.trans hE⟩
          · have e3 : decide ((g.us.length : Int) ≤ 100) = false := by simpa using h3
            have e3' : decide (g.us.length ≤ 100) = false := by simp; omega
            go_wp2
            go_ret
            exact ⟨false, rfl, (fun h => by cases h), hX.trans hE⟩
        · have e2 : decide (z ≤ 2000) = false := by simpa using h2
          go_wp2
          go_ret
          exact ⟨false, rfl, (fun h => by cases h), hX.trans hE⟩
      · have e1 : decide ((g.ns.length : Int) ≤ 100) = false := by simpa using h1
        have e1' : decide (g.ns.length ≤ 100) = false := by simp; omega
        go_wp2
        go_ret
        exact ⟨false, rfl, (fun h => by cases h), hX.trans hE⟩

end Go.Proofs.Ytamghjilcfeheaa
