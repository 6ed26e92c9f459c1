/- The walks of the two Valid. Conditions: the sizes that each theorem states. -/
import Derived.Test.YtamghjilcfeheaaMU
namespace Go.Proofs.Ytamghjilcfeheaa
open Go.RowKit Go.Draw

def Ok1 (g : Gr) (k : Nat) : Prop := ∀ (j : Nat) (u : Bool) (r : Int), j < k → g.us[j]? = some u → g.rs[j]? = some r → (u = false → r = -1) ∧ (u = true → 0 ≤ r ∧ r < g.ns.length)
def OkR (g : Gr) (x : List Int × List Int) (j : Nat) : Prop := ∀ (i : Nat) (r : Int), i < j → x.1[i]? = some r → -1 ≤ r ∧ r < g.ns.length
def Ok2 (g : Gr) (k : Nat) : Prop := ∀ (m : Nat) (x : List Int × List Int), m < k → g.ns[m]? = some x → x.1.length ≤ 15 ∧ x.2.length ≤ 32 ∧ OkR g x x.1.length
theorem Ok1.next {g : Gr} {k : Nat} (h : Ok1 g k) {u : Bool} {r : Int} (hu : g.us[k]? = some u) (hr : g.rs[k]? = some r) (h1 : u = false → r = -1) (h2 : u = true → 0 ≤ r ∧ r < g.ns.length) : Ok1 g (k + 1) := fun j u' r' hj hu' hr' => by
  rcases Nat.lt_or_ge j k with h3 | h3
  · exact h j u' r' h3 hu' hr'
  · have : j = k := by omega
    subst this
    rw [hu] at hu'
    rw [hr] at hr'
    injection hu' with hu'
    injection hr' with hr'
    subst hu' hr'
    exact ⟨h1, h2⟩
theorem OkR.next {g : Gr} {x : List Int × List Int} {k : Nat} (h : OkR g x k) {r : Int} (hr : x.1[k]? = some r) (h1 : -1 ≤ r ∧ r < g.ns.length) : OkR g x (k + 1) := fun j r' hj hr' => by
  rcases Nat.lt_or_ge j k with h3 | h3
  · exact h j r' h3 hr'
  · have : j = k := by omega
    subst this
    rw [hr] at hr'
    injection hr' with hr'
    subst hr'
    exact h1
theorem Ok2.next {g : Gr} {k : Nat} (h : Ok2 g k) {x : List Int × List Int} (hx : g.ns[k]? = some x) (h1 : x.1.length ≤ 15 ∧ x.2.length ≤ 32 ∧ OkR g x x.1.length) : Ok2 g (k + 1) := fun j y hj hy => by
  rcases Nat.lt_or_ge j k with h3 | h3
  · exact h j y h3 hy
  · have : j = k := by omega
    subst this
    rw [hx] at hy
    injection hy with hy
    subst hy
    exact h1
theorem vld_of {g : Gr} (hu : g.us.length = 32) (hr : g.rs.length = 32) (h1 : Ok1 g g.us.length) (h2 : Ok2 g g.ns.length) : vldB g = true :=
  vldB_true.2 ⟨hu, hr, fun i r h3 h4 => (h1 i _ r (List.getElem?_eq_some_iff.1 h3).1 h3 h4).1 rfl, fun i r h3 h4 => (h1 i _ r (List.getElem?_eq_some_iff.1 h3).1 h3 h4).2 rfl,
    fun i x hx => by
      obtain ⟨k1, k2, k3⟩ := h2 i x (List.getElem?_eq_some_iff.1 hx).1 hx
      exact ⟨k1, k2, fun k r hk => k3 k r (List.getElem?_eq_some_iff.1 hk).1 hk⟩⟩
set_option maxRecDepth 100000 in
set_option maxHeartbeats 2000000 in
theorem valid14_raw (v : Value) (g : Gr) (w : World) (hg : GRd w v g) (hb : g.ns.length ≤ 1000 ∧ g.us.length ≤ 1000 ∧ g.rs.length ≤ 1000) : Calls Try.prog 14 #[v] w fun r w' => r = .returned (.bool (vldB g)) ∧ Ext w w' := by
  obtain ⟨A0, a0, B0, b0, C0, c0, rfl⟩ := hg.sl
  have b1 := hb.1
  have b2 := hb.2.1
  have b3 := hb.2.2
  have hX := Ext.alloc (Ext.refl w) (.cells #[.slice A0 g.ns.length a0, .slice B0 g.us.length b0, .slice C0 g.rs.length c0] 26)
  by_cases hU : g.us.length = 32
  · by_cases hR : g.rs.length = 32
    · have u1 : ((g.us.length : Int) != 32) = false := by simp; omega
      have r1 : ((g.rs.length : Int) != 32) = false := by simp; omega
      have HU := Lib.hid hU
      have HR := Lib.hid hR
      clear hU hR hb
      go_enter Try.func14, Try.ntmps14
      go_upto_region 1 with fail
      have k1 : Blk (w.alloc (.cells #[.slice A0 g.ns.length a0, .slice B0 g.us.length b0, .slice C0 g.rs.length c0] 26)) w.heap.size 26 #[.slice A0 g.ns.length a0, .slice B0 g.us.length b0, .slice C0 g.rs.length c0] := Blk.new rfl
      generalize w.alloc (.cells #[.slice A0 g.ns.length a0, .slice B0 g.us.length b0, .slice C0 g.rs.length c0] 26) = W at hX k1 ⊢
      have hgW := hg.ext hX
      obtain ⟨hU0, hC0⟩ := hgW.rows
      have m1 := k1.cell
      have l1 := k1.lt
      have bn : (g.ns.length : Int) ≤ 1000 := by omega
      have bu : (g.us.length : Int) ≤ 1000 := by omega
      go_wp2_with fail
      go_loopw [23] (fun i wr => ∃ k : Nat, k ≤ g.us.length ∧ i = .int .i64 k ∧ W = wr ∧ Ok1 g k) (fun i _ => g.us.length - (intOf i).toNat)
      case atStart => exact ⟨0, by omega, rfl, rfl, fun j u r hj => by omega⟩
      case round =>
        obtain ⟨k, hk, rfl, rfl, hok⟩ := hrel
        have Hok := Lib.hid hok
        clear hok
        by_cases hlt : k < g.us.length
        · have hdec : decide ((k : Int) < g.us.length) = true := by simp; omega
          have hdec' : decide (k < g.us.length) = true := by simp; omega
          have hkb : (k : Int) < g.us.length := by omega
          obtain ⟨u, hu⟩ : ∃ u, g.us[k]? = some u := ⟨_, List.getElem?_eq_getElem hlt⟩
          obtain ⟨r, hr⟩ : ∃ r, g.rs[k]? = some r := ⟨_, List.getElem?_eq_getElem (by have := HU.out; have := HR.out; omega)⟩
          obtain ⟨bb, ob, rfl, hcb⟩ := rd_vb hU0 hu
          obtain ⟨bc, oc, rfl, hcc⟩ := rd_ints hC0 hr
          have Hu := Lib.hid hu
          have Hr := Lib.hid hr
          have lbb := cell_lt hcb
          have lbc := cell_lt hcc
          have n3 : k < g.rs.length := (List.getElem?_eq_some_iff.1 hr).1
          have n4 : (k : Int) < g.rs.length := by omega
          clear hu hr
          cases u
          · by_cases hr1 : r = -1
            · subst hr1
              go_wp2
              go_roundw
              case rel => exact ⟨k + 1, by omega, by go_num, by trivial, Hok.out.next Hu.out Hr.out (fun _ => rfl) (fun h => by cases h)⟩
              case measure => simp [intOf]; omega
            · have q1 : (r != (-1 : Int)) = true := by simpa using hr1
              go_wp2
              go_ret
              exact ⟨ret_bool (vldB_false.2 (fun hv => hr1 (hv.un k r Hu.out Hr.out))).symm, hX⟩
          · by_cases hr0 : r < 0
            · have q1 : decide (r < 0) = true := by simpa using hr0
              go_wp2
              go_ret
              exact ⟨ret_bool (vldB_false.2 (fun hv => by have := hv.us k r Hu.out Hr.out; omega)).symm, hX⟩
            · have q1 : decide (r < 0) = false := by simpa using hr0
              by_cases hr2 : (g.ns.length : Int) ≤ r
              · have q2 : decide ((g.ns.length : Int) ≤ r) = true := by simpa using hr2
                go_wp2
                go_ret
                exact ⟨ret_bool (vldB_false.2 (fun hv => by have := hv.us k r Hu.out Hr.out; omega)).symm, hX⟩
              · have q2 : decide ((g.ns.length : Int) ≤ r) = false := by simp; omega
                go_wp2
                go_roundw
                case rel => exact ⟨k + 1, by omega, by go_num, by trivial, Hok.out.next Hu.out Hr.out (fun h => by cases h) (fun _ => ⟨by omega, by omega⟩)⟩
                case measure => simp [intOf]; omega
        · have hdec : decide ((k : Int) < g.us.length) = false := by simp; omega
          have hdec' : decide (k < g.us.length) = false := by simp; omega
          have hkn : k = g.us.length := by omega
          subst hkn
          go_wp2_with fail
          go_loopw [57] (fun i wx => ∃ k : Nat, k ≤ g.ns.length ∧ i = .int .i64 k ∧ Ext W wx ∧ Ok2 g k) (fun i _ => g.ns.length - (intOf i).toNat)
          case atStart => exact ⟨0, by omega, rfl, Ext.refl _, fun j x hj => by omega⟩
          case round =>
            clear m1
            obtain ⟨k, hk, rfl, hE, hok⟩ := hrel
            have Hok2 := Lib.hid hok
            have m1 := (k1.ext hE).cell
            clear hok
            by_cases hlt : k < g.ns.length
            · have hdec : decide ((k : Int) < g.ns.length) = true := by simp; omega
              have hdec' : decide (k < g.ns.length) = true := by simp; omega
              have hkb : (k : Int) < g.ns.length := by omega
              obtain ⟨x, hx0⟩ : ∃ x, g.ns[k]? = some x := ⟨_, List.getElem?_eq_getElem hlt⟩
              obtain ⟨ba, oa, R, cR, D, cD, rfl, q0, q1, hRr, hD, lq0⟩ := hgW.node hx0
              replace q0 := cell_ext hE q0
              replace q1 := cell_ext hE q1
              have lq := cell_lt q0
              have Hx := Lib.hid hx0
              clear hx0 hD
              go_upto_region 13 with fail
              have hX5 := Ext.alloc (Ext.refl wr) (.cells #[.slice R x.1.length cR, .slice D x.2.length cD] 49)
              have k5 : Blk (wr.alloc (.cells #[.slice R x.1.length cR, .slice D x.2.length cD] 49)) wr.heap.size 49 #[.slice R x.1.length cR, .slice D x.2.length cD] := Blk.new rfl
              generalize wr.alloc (.cells #[.slice R x.1.length cR, .slice D x.2.length cD] 49) = W5 at hX5 k5 ⊢
              generalize wr.heap.size = q at k5 ⊢
              have hE5 := hE.trans hX5
              have m1' := (k1.ext hE5).cell
              have m5 := k5.cell
              have l5 := k5.lt
              clear m1 q0 q1
              by_cases hn1 : 15 < x.1.length
              · have e1 : decide ((15 : Int) < x.1.length) = true := by simp; omega
                have e1' : decide (15 < x.1.length) = true := by simp; omega
                go_wp2
                go_ret
                exact ⟨ret_bool (vldB_false.2 (fun hv => by have := (hv.nd k x Hx.out).1; omega)).symm, hX.trans hE5⟩
              · have e1 : decide ((15 : Int) < x.1.length) = false := by simp; omega
                have e1' : decide (15 < x.1.length) = false := by simp; omega
                by_cases hn2 : 32 < x.2.length
                · have e2 : decide ((32 : Int) < x.2.length) = true := by simp; omega
                  have e2' : decide (32 < x.2.length) = true := by simp; omega
                  go_wp2
                  go_ret
                  exact ⟨ret_bool (vldB_false.2 (fun hv => by have := (hv.nd k x Hx.out).2.1; omega)).symm, hX.trans hE5⟩
                · have e2 : decide ((32 : Int) < x.2.length) = false := by simp; omega
                  have e2' : decide (32 < x.2.length) = false := by simp; omega
                  go_wp2_with fail
                  go_loopw [74] (fun i wy => ∃ j : Nat, j ≤ x.1.length ∧ i = .int .i64 j ∧ W5 = wy ∧ OkR g x j) (fun i _ => x.1.length - (intOf i).toNat)
                  case atStart => exact ⟨0, by omega, rfl, rfl, fun i r hi => by omega⟩
                  case round =>
                    obtain ⟨j, hj, rfl, rfl, hok⟩ := hrel
                    have HokR := Lib.hid hok
                    clear hok
                    by_cases hjl : j < x.1.length
                    · have jd : decide ((j : Int) < x.1.length) = true := by simp; omega
                      have jd' : decide (j < x.1.length) = true := by simp; omega
                      have jb : (j : Int) < x.1.length := by omega
                      obtain ⟨r, hr⟩ : ∃ r, x.1[j]? = some r := ⟨_, List.getElem?_eq_getElem hjl⟩
                      obtain ⟨bR, oR, rfl, hcr⟩ := rd_ints (hRr.ext hE5) hr
                      have lR := cell_lt hcr
                      have Hr := Lib.hid hr
                      clear hr
                      by_cases hr0 : r < -1
                      · have q1 : decide (r < -1) = true := by simpa using hr0
                        go_wp2
                        go_ret
                        exact ⟨ret_bool (vldB_false.2 (fun hv => by have := (hv.nd k x Hx.out).2.2 j r Hr.out; omega)).symm, hX.trans hE5⟩
                      · have q1 : decide (r < -1) = false := by simpa using hr0
                        by_cases hr2 : (g.ns.length : Int) ≤ r
                        · have q2 : decide ((g.ns.length : Int) ≤ r) = true := by simpa using hr2
                          go_wp2
                          go_ret
                          exact ⟨ret_bool (vldB_false.2 (fun hv => by have := (hv.nd k x Hx.out).2.2 j r Hr.out; omega)).symm, hX.trans hE5⟩
                        · have q2 : decide ((g.ns.length : Int) ≤ r) = false := by simp; omega
                          go_wp2
                          go_roundw
                          case rel => exact ⟨j + 1, by omega, by go_num, by trivial, HokR.out.next Hr.out ⟨by omega, by omega⟩⟩
                          case measure => simp [intOf]; omega
                    · have jd : decide ((j : Int) < x.1.length) = false := by simp; omega
                      have jd' : decide (j < x.1.length) = false := by simp; omega
                      have hjn : j = x.1.length := by omega
                      subst hjn
                      go_wp2_with fail
                      go_roundw
                      case rel => exact ⟨k + 1, by omega, by go_num, hE5, Hok2.out.next Hx.out ⟨by omega, by omega, HokR.out⟩⟩
                      case measure => simp [intOf]; omega
            · have hdec : decide ((k : Int) < g.ns.length) = false := by simp; omega
              have hdec' : decide (k < g.ns.length) = false := by simp; omega
              have hkn : k = g.ns.length := by omega
              subst hkn
              go_wp2
              go_ret
              exact ⟨ret_bool (vld_of HU.out HR.out Hok.out Hok2.out).symm, hX.trans hE⟩
    · have u1 : ((g.us.length : Int) != 32) = false := by simp; omega
      have r1 : ((g.rs.length : Int) != 32) = true := by simp; omega
      have HR := Lib.hid hR
      clear hU hR hb
      go_enter Try.func14, Try.ntmps14
      go_wp2
      go_ret
      exact ⟨ret_bool (vldB_false.2 (fun hv => HR.out hv.lr)).symm, hX⟩
  · have u1 : ((g.us.length : Int) != 32) = true := by simp; omega
    have HU := Lib.hid hU
    clear hU hb
    go_enter Try.func14, Try.ntmps14
    go_wp2
    go_ret
    exact ⟨ret_bool (vldB_false.2 (fun hv => HU.out hv.lu)).symm, hX⟩
theorem valid14_any (v : Value) (g : Gr) (w : World) (hg : GRd w v g) (hb : Bd g) : Calls Try.prog 14 #[v] w fun r w' => r = .returned (.bool (vldB g)) ∧ Ext w w' := valid14_raw v g w hg ⟨hb.1, hb.2.1, hb.2.2.1⟩
set_option maxRecDepth 100000 in
set_option maxHeartbeats 2000000 in
theorem valid25_raw (v : Value) (g : Gr) (w : World) (hg : GRd w v g) (hb : g.ns.length ≤ 1000 ∧ g.us.length ≤ 1000 ∧ g.rs.length ≤ 1000) : Calls Try.prog 25 #[v] w fun r w' => r = .returned (.bool (vldB g)) ∧ Ext w w' := by
  obtain ⟨A0, a0, B0, b0, C0, c0, rfl⟩ := hg.sl
  have b1 := hb.1
  have b2 := hb.2.1
  have b3 := hb.2.2
  have hX := Ext.alloc (Ext.refl w) (.cells #[.slice A0 g.ns.length a0, .slice B0 g.us.length b0, .slice C0 g.rs.length c0] 26)
  by_cases hU : g.us.length = 32
  · by_cases hR : g.rs.length = 32
    · have u1 : ((g.us.length : Int) != 32) = false := by simp; omega
      have r1 : ((g.rs.length : Int) != 32) = false := by simp; omega
      have HU := Lib.hid hU
      have HR := Lib.hid hR
      clear hU hR hb
      go_enter Try.func25, Try.ntmps25
      go_upto_region 1 with fail
      have k1 : Blk (w.alloc (.cells #[.slice A0 g.ns.length a0, .slice B0 g.us.length b0, .slice C0 g.rs.length c0] 26)) w.heap.size 26 #[.slice A0 g.ns.length a0, .slice B0 g.us.length b0, .slice C0 g.rs.length c0] := Blk.new rfl
      generalize w.alloc (.cells #[.slice A0 g.ns.length a0, .slice B0 g.us.length b0, .slice C0 g.rs.length c0] 26) = W at hX k1 ⊢
      have hgW := hg.ext hX
      obtain ⟨hU0, hC0⟩ := hgW.rows
      have m1 := k1.cell
      have l1 := k1.lt
      have bn : (g.ns.length : Int) ≤ 1000 := by omega
      have bu : (g.us.length : Int) ≤ 1000 := by omega
      go_wp2_with fail
      go_loopw [23] (fun i wr => ∃ k : Nat, k ≤ g.us.length ∧ i = .int .i64 k ∧ W = wr ∧ Ok1 g k) (fun i _ => g.us.length - (intOf i).toNat)
      case atStart => exact ⟨0, by omega, rfl, rfl, fun j u r hj => by omega⟩
      case round =>
        obtain ⟨k, hk, rfl, rfl, hok⟩ := hrel
        have Hok := Lib.hid hok
        clear hok
        by_cases hlt : k < g.us.length
        · have hdec : decide ((k : Int) < g.us.length) = true := by simp; omega
          have hdec' : decide (k < g.us.length) = true := by simp; omega
          have hkb : (k : Int) < g.us.length := by omega
          obtain ⟨u, hu⟩ : ∃ u, g.us[k]? = some u := ⟨_, List.getElem?_eq_getElem hlt⟩
          obtain ⟨r, hr⟩ : ∃ r, g.rs[k]? = some r := ⟨_, List.getElem?_eq_getElem (by have := HU.out; have := HR.out; omega)⟩
          obtain ⟨bb, ob, rfl, hcb⟩ := rd_vb hU0 hu
          obtain ⟨bc, oc, rfl, hcc⟩ := rd_ints hC0 hr
          have Hu := Lib.hid hu
          have Hr := Lib.hid hr
          have lbb := cell_lt hcb
          have lbc := cell_lt hcc
          have n3 : k < g.rs.length := (List.getElem?_eq_some_iff.1 hr).1
          have n4 : (k : Int) < g.rs.length := by omega
          clear hu hr
          cases u
          · by_cases hr1 : r = -1
            · subst hr1
              go_wp2
              go_roundw
              case rel => exact ⟨k + 1, by omega, by go_num, by trivial, Hok.out.next Hu.out Hr.out (fun _ => rfl) (fun h => by cases h)⟩
              case measure => simp [intOf]; omega
            · have q1 : (r != (-1 : Int)) = true := by simpa using hr1
              go_wp2
              go_ret
              exact ⟨ret_bool (vldB_false.2 (fun hv => hr1 (hv.un k r Hu.out Hr.out))).symm, hX⟩
          · by_cases hr0 : r < 0
            · have q1 : decide (r < 0) = true := by simpa using hr0
              go_wp2
              go_ret
              exact ⟨ret_bool (vldB_false.2 (fun hv => by have := hv.us k r Hu.out Hr.out; omega)).symm, hX⟩
            · have q1 : decide (r < 0) = false := by simpa using hr0
              by_cases hr2 : (g.ns.length : Int) ≤ r
              · have q2 : decide ((g.ns.length : Int) ≤ r) = true := by simpa using hr2
                go_wp2
                go_ret
                exact ⟨ret_bool (vldB_false.2 (fun hv => by have := hv.us k r Hu.out Hr.out; omega)).symm, hX⟩
              · have q2 : decide ((g.ns.length : Int) ≤ r) = false := by simp; omega
                go_wp2
                go_roundw
                case rel => exact ⟨k + 1, by omega, by go_num, by trivial, Hok.out.next Hu.out Hr.out (fun h => by cases h) (fun _ => ⟨by omega, by omega⟩)⟩
                case measure => simp [intOf]; omega
        · have hdec : decide ((k : Int) < g.us.length) = false := by simp; omega
          have hdec' : decide (k < g.us.length) = false := by simp; omega
          have hkn : k = g.us.length := by omega
          subst hkn
          go_wp2_with fail
          go_loopw [57] (fun i wx => ∃ k : Nat, k ≤ g.ns.length ∧ i = .int .i64 k ∧ Ext W wx ∧ Ok2 g k) (fun i _ => g.ns.length - (intOf i).toNat)
          case atStart => exact ⟨0, by omega, rfl, Ext.refl _, fun j x hj => by omega⟩
          case round =>
            clear m1
            obtain ⟨k, hk, rfl, hE, hok⟩ := hrel
            have Hok2 := Lib.hid hok
            have m1 := (k1.ext hE).cell
            clear hok
            by_cases hlt : k < g.ns.length
            · have hdec : decide ((k : Int) < g.ns.length) = true := by simp; omega
              have hdec' : decide (k < g.ns.length) = true := by simp; omega
              have hkb : (k : Int) < g.ns.length := by omega
              obtain ⟨x, hx0⟩ : ∃ x, g.ns[k]? = some x := ⟨_, List.getElem?_eq_getElem hlt⟩
              obtain ⟨ba, oa, R, cR, D, cD, rfl, q0, q1, hRr, hD, lq0⟩ := hgW.node hx0
              replace q0 := cell_ext hE q0
              replace q1 := cell_ext hE q1
              have lq := cell_lt q0
              have Hx := Lib.hid hx0
              clear hx0 hD
              go_upto_region 13 with fail
              have hX5 := Ext.alloc (Ext.refl wr) (.cells #[.slice R x.1.length cR, .slice D x.2.length cD] 49)
              have k5 : Blk (wr.alloc (.cells #[.slice R x.1.length cR, .slice D x.2.length cD] 49)) wr.heap.size 49 #[.slice R x.1.length cR, .slice D x.2.length cD] := Blk.new rfl
              generalize wr.alloc (.cells #[.slice R x.1.length cR, .slice D x.2.length cD] 49) = W5 at hX5 k5 ⊢
              generalize wr.heap.size = q at k5 ⊢
              have hE5 := hE.trans hX5
              have m1' := (k1.ext hE5).cell
              have m5 := k5.cell
              have l5 := k5.lt
              clear m1 q0 q1
              by_cases hn1 : 15 < x.1.length
              · have e1 : decide ((15 : Int) < x.1.length) = true := by simp; omega
                have e1' : decide (15 < x.1.length) = true := by simp; omega
                go_wp2
                go_ret
                exact ⟨ret_bool (vldB_false.2 (fun hv => by have := (hv.nd k x Hx.out).1; omega)).symm, hX.trans hE5⟩
              · have e1 : decide ((15 : Int) < x.1.length) = false := by simp; omega
                have e1' : decide (15 < x.1.length) = false := by simp; omega
                by_cases hn2 : 32 < x.2.length
                · have e2 : decide ((32 : Int) < x.2.length) = true := by simp; omega
                  have e2' : decide (32 < x.2.length) = true := by simp; omega
                  go_wp2
                  go_ret
                  exact ⟨ret_bool (vldB_false.2 (fun hv => by have := (hv.nd k x Hx.out).2.1; omega)).symm, hX.trans hE5⟩
                · have e2 : decide ((32 : Int) < x.2.length) = false := by simp; omega
                  have e2' : decide (32 < x.2.length) = false := by simp; omega
                  go_wp2_with fail
                  go_loopw [74] (fun i wy => ∃ j : Nat, j ≤ x.1.length ∧ i = .int .i64 j ∧ W5 = wy ∧ OkR g x j) (fun i _ => x.1.length - (intOf i).toNat)
                  case atStart => exact ⟨0, by omega, rfl, rfl, fun i r hi => by omega⟩
                  case round =>
                    obtain ⟨j, hj, rfl, rfl, hok⟩ := hrel
                    have HokR := Lib.hid hok
                    clear hok
                    by_cases hjl : j < x.1.length
                    · have jd : decide ((j : Int) < x.1.length) = true := by simp; omega
                      have jd' : decide (j < x.1.length) = true := by simp; omega
                      have jb : (j : Int) < x.1.length := by omega
                      obtain ⟨r, hr⟩ : ∃ r, x.1[j]? = some r := ⟨_, List.getElem?_eq_getElem hjl⟩
                      obtain ⟨bR, oR, rfl, hcr⟩ := rd_ints (hRr.ext hE5) hr
                      have lR := cell_lt hcr
                      have Hr := Lib.hid hr
                      clear hr
                      by_cases hr0 : r < -1
                      · have q1 : decide (r < -1) = true := by simpa using hr0
                        go_wp2
                        go_ret
                        exact ⟨ret_bool (vldB_false.2 (fun hv => by have := (hv.nd k x Hx.out).2.2 j r Hr.out; omega)).symm, hX.trans hE5⟩
                      · have q1 : decide (r < -1) = false := by simpa using hr0
                        by_cases hr2 : (g.ns.length : Int) ≤ r
                        · have q2 : decide ((g.ns.length : Int) ≤ r) = true := by simpa using hr2
                          go_wp2
                          go_ret
                          exact ⟨ret_bool (vldB_false.2 (fun hv => by have := (hv.nd k x Hx.out).2.2 j r Hr.out; omega)).symm, hX.trans hE5⟩
                        · have q2 : decide ((g.ns.length : Int) ≤ r) = false := by simp; omega
                          go_wp2
                          go_roundw
                          case rel => exact ⟨j + 1, by omega, by go_num, by trivial, HokR.out.next Hr.out ⟨by omega, by omega⟩⟩
                          case measure => simp [intOf]; omega
                    · have jd : decide ((j : Int) < x.1.length) = false := by simp; omega
                      have jd' : decide (j < x.1.length) = false := by simp; omega
                      have hjn : j = x.1.length := by omega
                      subst hjn
                      go_wp2_with fail
                      go_roundw
                      case rel => exact ⟨k + 1, by omega, by go_num, hE5, Hok2.out.next Hx.out ⟨by omega, by omega, HokR.out⟩⟩
                      case measure => simp [intOf]; omega
            · have hdec : decide ((k : Int) < g.ns.length) = false := by simp; omega
              have hdec' : decide (k < g.ns.length) = false := by simp; omega
              have hkn : k = g.ns.length := by omega
              subst hkn
              go_wp2
              go_ret
              exact ⟨ret_bool (vld_of HU.out HR.out Hok.out Hok2.out).symm, hX.trans hE⟩
    · have u1 : ((g.us.length : Int) != 32) = false := by simp; omega
      have r1 : ((g.rs.length : Int) != 32) = true := by simp; omega
      have HR := Lib.hid hR
      clear hU hR hb
      go_enter Try.func25, Try.ntmps25
      go_wp2
      go_ret
      exact ⟨ret_bool (vldB_false.2 (fun hv => HR.out hv.lr)).symm, hX⟩
  · have u1 : ((g.us.length : Int) != 32) = true := by simp; omega
    have HU := Lib.hid hU
    clear hU hb
    go_enter Try.func25, Try.ntmps25
    go_wp2
    go_ret
    exact ⟨ret_bool (vldB_false.2 (fun hv => HU.out hv.lu)).symm, hX⟩
theorem valid25_any (v : Value) (g : Gr) (w : World) (hg : GRd w v g) (hb : Bd g) : Calls Try.prog 25 #[v] w fun r w' => r = .returned (.bool (vldB g)) ∧ Ext w w' := valid25_raw v g w hg ⟨hb.1, hb.2.1, hb.2.2.1⟩
end Go.Proofs.Ytamghjilcfeheaa
