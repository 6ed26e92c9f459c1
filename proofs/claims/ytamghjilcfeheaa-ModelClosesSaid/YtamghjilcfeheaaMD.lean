/- Sets that are marked from a list of nodes; rounds. Plain facts, no walk. The law ModelCloses, walked. Condition: none beyond the sizes of a slice. -/
import Derived.Test.YtamghjilcfeheaaAB
import Derived.Test.YtamghjilcfeheaaCL
namespace Go.Proofs.Ytamghjilcfeheaa
open Go.RowKit Go.Draw

/-- just those of the list are marked -/
structure InTo (g : Gr) (L : List Nat) (s : List Bool) : Prop where
  len : s.length = g.ns.length
  iff : ∀ i : Nat, s[i]? = some true ↔ i ∈ L
theorem inTo_none (g : Gr) : InTo g [] (List.replicate g.ns.length false) := ⟨by simp, fun i => by
  simp only [List.not_mem_nil, iff_false, List.getElem?_replicate]
  split <;> simp⟩
theorem InTo.mark {g : Gr} {L : List Nat} {s : List Bool} (h : InTo g L s) {n : Nat} (hn : n < g.ns.length) : InTo g (L ++ [n]) (s.set n true) := ⟨by simpa using h.len, fun i => by
  rw [get_mark, h.iff, h.len, List.mem_append, List.mem_singleton]
  constructor
  · rintro (⟨h1, _⟩ | h1)
    · exact .inr h1
    · exact .inl h1
  · rintro (h1 | h1)
    · exact .inr h1
    · exact .inl ⟨h1, hn⟩⟩
theorem InTo.no {g : Gr} {L : List Nat} {s : List Bool} (h : InTo g L s) {n : Nat} (hn : n < g.ns.length) (hm : n ∉ L) : s[n]? = some false := by
  have hg : s[n]? = some (s[n]'(by rw [h.len]; exact hn)) := List.getElem?_eq_getElem _
  cases hs : s[n]'(by rw [h.len]; exact hn) with
  | false => rw [hg, hs]
  | true => rw [hs] at hg; exact absurd ((h.iff n).1 hg) hm
theorem reachL_nodup (g : Gr) : (reachL g).Nodup := List.Nodup.sublist List.filter_sublist List.nodup_range
theorem take_nodup {L : List Nat} (h : L.Nodup) {k n : Nat} (hk : L[k]? = some n) : n ∉ L.take k := fun hm => by
  obtain ⟨i, hi⟩ := List.mem_iff_getElem?.1 hm
  rw [List.getElem?_take] at hi
  split at hi
  · rename_i hik
    have h1 := (List.getElem?_eq_some_iff.1 hi).1
    have h2 := (List.getElem?_eq_some_iff.1 hk).1
    have e1 := (List.getElem?_eq_some_iff.1 hi).2
    have e2 := (List.getElem?_eq_some_iff.1 hk).2
    exact (List.pairwise_iff_getElem.1 h) i k h1 h2 hik (e1.trans e2.symm)
  · cases hi
theorem reachL_mem {g : Gr} (hv : Vld g) {n : Nat} : n ∈ reachL g ↔ Rch g n := by
  unfold reachL
  rw [List.mem_filter, List.mem_range, rchB_true]
  exact ⟨fun h => h.2, fun h => ⟨h.lt hv, h⟩⟩
/-- all that is reached is marked -/
theorem InTo.all {g : Gr} {s : List Bool} (hv : Vld g) (h : InTo g (reachL g) s) : ∀ i : Nat, s[i]? = some true ↔ Rch g i := fun i => (h.iff i).trans (reachL_mem hv)
theorem InTo.snd {g : Gr} {s : List Bool} (hv : Vld g) (h : InTo g (reachL g) s) : Snd g s := ⟨h.len, fun i hi => (h.all hv i).1 hi⟩
/-- a round at a time -/
def RoundOk (g : Gr) (f : List Bool) (r : Nat) : Prop := ClosedTo g f g.ns.length ∨ f.count false + r ≤ g.ns.length
theorem count_none {s : List Bool} (h : s.count false = 0) {i : Nat} (hi : i < s.length) : s[i]? = some true := by
  have hg : s[i]? = some s[i] := List.getElem?_eq_getElem hi
  cases hs : s[i] with
  | true => rw [hg, hs]
  | false =>
    have : false ∈ s := by rw [← hs]; exact List.getElem_mem hi
    have := List.count_pos_iff.2 this
    omega
theorem RoundOk.done {g : Gr} {f : List Bool} (hv : Vld g) (hs : Snd g f) (h : RoundOk g f g.ns.length) : ClosedTo g f g.ns.length := by
  rcases h with h | h
  · exact h
  · intro m n j x _ _ hx hj
    have hn : n < g.ns.length := by have := ((hv.nd m x hx).2.2 j _ hj).2; omega
    exact count_none (by omega) (by rw [hs.len]; exact hn)
theorem set_same {f : List Bool} {m : Nat} (h : f[m]? = some true) : f.set m true = f := by
  apply List.ext_getElem?
  intro i
  by_cases hi : m = i
  · subst hi
    have := (List.getElem?_eq_some_iff.1 h).1
    rw [List.getElem?_set_self this, h]
  · rw [List.getElem?_set_ne hi]
theorem round_next {g : Gr} {f0 f : List Bool} {r : Nat} {b : Bool} (_ : Vld g) (h0 : Snd g f0) (hr : RootsIn g f0 g.us.length) (ho : RoundOk g f0 r) (hs : Snd g f) (hm : ∀ i : Nat, f0[i]? = some true → f[i]? = some true)
    (hC0 : b = false → f = f0 ∧ ClosedTo g f g.ns.length) (hC1 : b = true → f.count false < f0.count false) : RoundOk g f (r + 1) := by
  cases b with
  | false => exact .inl (hC0 rfl).2
  | true =>
    have h1 := hC1 rfl
    rcases ho with h | h
    · refine .inl fun m n j x _ h2 h3 h4 => ?_
      exact hm n ((reach_done h0 hr h n).2 (Rch.step (hs.snd m h2) h3 h4))
    · exact .inr (by omega)
theorem sum_seen {g : Gr} {s : List Bool} {k : Nat} (x : List Int × List Int) (h : s[k]? = some true) (hx : g.ns[k]? = some x) : sumL g (seenTo s (k + 1)) = sumL g (seenTo s k) + (1 + x.1.length + x.2.length) := by
  rw [seenTo_yes h, sum_snoc, List.getD_eq_getElem?_getD, hx]
  rfl
end Go.Proofs.Ytamghjilcfeheaa

namespace Go.Proofs.Ytamghjilcfeheaa
open Go.RowKit Go.Draw

set_option maxRecDepth 100000 in
set_option maxHeartbeats 2000000 in
theorem closes_any (A : Option Addr) (n c : Nat) (zs : List Int) (dr : Int) (w : World) (hz : Rd w A n 1 (ints zs)) (hn : n ≤ 9223372036854775807) :
    Calls Try.prog 5 #[.slice A n c, .int .i64 dr] w fun r w' => r = .returned (.bool true) ∧ Ext w w' := by
  go_enter Try.func5, Try.ntmps5
  go_upto_region 2 with (first | (go_at_call 9; refine (deck_any A n c zs _ hz hn).mono ?_; rintro e w1 ⟨rfl, hDk, hE1⟩; have hz1 := hDk.lt) | (go_at_call 8; refine (graph8_any w.heap.size _ (S := [w.heap.size]) (fun x hx => by have := List.mem_singleton.1 hx; omega) (by simp) hDk).mono ?_; rintro e w1 ⟨v, g, rfl, hgx, hv, hl50, hD2, hB2⟩; (obtain ⟨A0, a0, B0, b0, C0, c0, rfl⟩ := hgx.sl)))
  have hEw : Ext w w1 := But.ext hE1 hB2 (fun x hx => by have := List.mem_singleton.1 hx; omega)
  have hX := Ext.alloc (Ext.refl w1) (.cells #[.slice A0 g.ns.length a0, .slice B0 g.us.length b0, .slice C0 g.rs.length c0] 26)
  have kO : Blk (w1.alloc (.cells #[.slice A0 g.ns.length a0, .slice B0 g.us.length b0, .slice C0 g.rs.length c0] 26)) w1.heap.size 26 #[.slice A0 g.ns.length a0, .slice B0 g.us.length b0, .slice C0 g.rs.length c0] := Blk.new rfl
  generalize w1.alloc (.cells #[.slice A0 g.ns.length a0, .slice B0 g.us.length b0, .slice C0 g.rs.length c0] 26) = W at hX kO ⊢
  generalize w1.heap.size = o at kO ⊢
  have hEW : Ext w W := hEw.trans hX
  have hgW := (hgx.ext hX).rd
  clear hEw hX hgx hB2 hD2 hz1 hE1 hDk
  have hb := hv.bd (by omega)
  have bn : (g.ns.length : Int) ≤ 50 := by omega
  have mk := fun W : World => run_mk (P := Try.prog) Try.el24 rfl g.ns.length (by omega) (by omega) W
  have cO := kO.cell
  have lO := kO.lt
  have Hv := Lib.hid hv
  obtain ⟨hU0, hC0⟩ := hgW.rows
  go_upto_region 3 with fail
  have hS0 : (W.alloc (.cells (Array.replicate g.ns.length (Value.bool false)) 4)).ownsRow W.heap.size 4 1 (.slice (some ⟨W.heap.size, 0, none⟩) g.ns.length g.ns.length) g.ns.length (vb (List.replicate g.ns.length false)) := by
    have := own_new (base := W.heap.size) (w := W) (cs := List.replicate g.ns.length (Value.bool false)) (e := 4) (size := 1) (n := g.ns.length) rfl (Nat.le_refl _) (by omega) (by simp)
    simpa [vb] using this
  have hX2 : Ext W (W.alloc (.cells (Array.replicate g.ns.length (Value.bool false)) 4)) := Ext.alloc (Ext.refl _) _
  have hbl : W.heap.size < (W.alloc (.cells (Array.replicate g.ns.length (Value.bool false)) 4)).heap.size := by simp
  generalize W.alloc (.cells (Array.replicate g.ns.length (Value.bool false)) 4) = W2 at hX2 hS0 hbl ⊢
  obtain ⟨bi, hbi⟩ : ∃ bi, bi = W.heap.size := ⟨_, rfl⟩
  rw [← hbi] at hS0 hbl
  rw [← hbi]
  have hbW : W.heap.size ≤ bi := by omega
  replace hS0 := own_base hS0 hbW
  have cO2 := (kO.ext hX2).cell
  clear hbi
  go_wp2_with (go_at_call 16; refine (reach16_any _ g _ (hgW.ext hX2) Hv.out (by omega)).mono ?_; rintro e w1 ⟨AL, cL, rfl, hO, hE1⟩)
  obtain ⟨w3, rfl⟩ : ∃ w3, w3 = w1 := ⟨_, rfl⟩
  simp only [nats_len] at hO ⊢
  have hLb : 0 < (reachL g).length → ∀ ad, AL = some ad → ad.block ≠ bi := fun h0 ad ha => by
    obtain ⟨gg, he, h1, _⟩ := own_form hO h0
    rw [ha] at he
    injection he with he
    subst he
    show gg ≠ bi
    omega
  have hRd := Rd.of_own hO
  have hLn := reachL_len g
  have hnd := reachL_nodup g
  have hLt : ∀ m ∈ reachL g, m < g.ns.length := fun m hm => reachL_lt hm
  have hall := fun s (h : InTo g (reachL g) s) => h.all Hv.out
  have hsnd := fun s (h : InTo g (reachL g) s) => h.snd Hv.out
  obtain ⟨L, hL⟩ : ∃ L, reachL g = L := ⟨_, rfl⟩
  rw [hL] at hO hLb hRd hLn hnd hLt hall hsnd ⊢
  have HL := Lib.hid hL
  have Hnd := Lib.hid hnd
  have HLt := Lib.hid hLt
  have Hall := Lib.hid hall
  have Hsnd := Lib.hid hsnd
  have hE3 : Ext W w3 := hX2.trans hE1
  replace hS0 := own_ext hS0 hE1
  clear hL hnd hLt hO hall hsnd hE1 hX2 cO cO2
  go_loopw [32] (fun t wr => ∃ (k : Nat) (s : List Bool), k ≤ L.length ∧ t = .int .i64 k ∧ wr.ownsRow W.heap.size 4 1 (.slice (some ⟨bi, 0, none⟩) g.ns.length g.ns.length) g.ns.length (vb s) ∧ Ext W wr ∧ Rd wr AL L.length 1 (ints (nats L)) ∧ InTo g (L.take k) s) (fun t _ => L.length - (intOf t).toNat)
  case atStart => exact ⟨0, _, by omega, rfl, hS0, hE3, hRd, inTo_none g⟩
  case round =>
    clear hS0 hE3 hRd
    obtain ⟨k, s, hk, rfl, hS, hE, hRd, hIn⟩ := hrel
    have HIn := Lib.hid hIn
    have lb := (World.ownsRow.lt hS bi rfl).2
    clear hIn
    by_cases hlt : k < L.length
    · have hdec : decide ((k : Int) < L.length) = true := by simp; omega
      have hdec' : decide (k < L.length) = true := by simp; omega
      have hkb : (k : Int) < L.length := by omega
      obtain ⟨m, hm⟩ : ∃ m, L[k]? = some m := ⟨_, List.getElem?_eq_getElem hlt⟩
      have hmN := HLt.out m (List.mem_of_getElem? hm)
      obtain ⟨bb, oo, rfl, hcL⟩ := hRd.2 (by omega)
      have hcm := hcL k (.int .i64 (m : Int)) (ints_at (by simp [nats, hm]))
      have hno := HIn.out.no hmN (take_nodup Hnd.out hm)
      obtain ⟨cS, fS⟩ := own_cells hS
      have cSm := cS m _ (vb_at hno)
      have lbb := cell_lt hcm
      have e1 : decide ((g.ns.length : Int) ≤ m) = false := by simp; omega
      have e1' : decide (g.ns.length ≤ m) = false := by simp; omega
      have e2 : decide ((g.ns.length : Int) < k) = false := by simp; omega
      have e2' : decide (g.ns.length < k) = false := by simp; omega
      have e3 : decide ((m : Int) < 0) = false := by simp
      have mb : (m : Int) < g.ns.length := by omega
      have Hm := Lib.hid hm
      have hbn := hLb (by omega) _ rfl
      have Hno := Lib.hid hno
      clear hcL hm cS hno
      go_wp2
      go_roundw
      case rel => exact ⟨k + 1, s.set m true, by omega, by go_num, own_mark hS, Ext.setCell hE hbW _, rd_but' hRd (But.setCell (S := [bi]) (But.refl _ _) (by simp) _) hLb, by rw [List.take_add_one, Hm.out]; exact HIn.out.mark hmN⟩
      case measure => simp [intOf]; omega
    · have hdec : decide ((k : Int) < L.length) = false := by simp; omega
      have hdec' : decide (k < L.length) = false := by simp; omega
      have hkn : k = L.length := by omega
      subst hkn
      have hIn := HIn.out
      rw [List.take_length] at hIn
      have hA := Hall.out s hIn
      have hSn := Hsnd.out s hIn
      have HA := Lib.hid hA
      have HSn := Lib.hid hSn
      have cO := (kO.ext hE).cell
      clear hIn hA hSn HIn hRd hLb Hall Hsnd
      go_upto_region 11 with fail
      obtain ⟨Wf, hWf⟩ : ∃ Wf, Wf = wr := ⟨_, rfl⟩
      subst hWf
      have hF0 : (Wf.alloc (.cells (Array.replicate g.ns.length (Value.bool false)) 4)).ownsRow Wf.heap.size 4 1 (.slice (some ⟨Wf.heap.size, 0, none⟩) g.ns.length g.ns.length) g.ns.length (vb (List.replicate g.ns.length false)) := by
        have := own_new (base := Wf.heap.size) (w := Wf) (cs := List.replicate g.ns.length (Value.bool false)) (e := 4) (size := 1) (n := g.ns.length) rfl (Nat.le_refl _) (by omega) (by simp)
        simpa [vb] using this
      have hXf : Ext Wf (Wf.alloc (.cells (Array.replicate g.ns.length (Value.bool false)) 4)) := Ext.alloc (Ext.refl _) _
      generalize Wf.alloc (.cells (Array.replicate g.ns.length (Value.bool false)) 4) = W5 at hXf hF0 ⊢
      obtain ⟨bf, hbf⟩ : ∃ bf, bf = Wf.heap.size := ⟨_, rfl⟩
      rw [← hbf] at hF0
      rw [← hbf]
      have hbF : Wf.heap.size ≤ bf := by omega
      replace hF0 := own_base hF0 hbF
      have nif : bi ≠ bf := by omega
      have nfi : bf ≠ bi := by omega
      clear hbf cO mk
      have cO := ((kO.ext hE).ext hXf).cell
      have hub : g.us.length ≤ 1000 := hb.2.1
      have Hub := Lib.hid hb
      have hlu := Lib.hid Hv.out.lu
      have hlr := Lib.hid Hv.out.lr
      clear hb
      go_wp2_with fail
      go_loopw [68] (fun i wr => ∃ (k : Nat) (f : List Bool), k ≤ g.us.length ∧ i = .int .i64 k ∧ wr.ownsRow Wf.heap.size 4 1 (.slice (some ⟨bf, 0, none⟩) g.ns.length g.ns.length) g.ns.length (vb f) ∧ Ext Wf wr ∧ Snd g f ∧ RootsIn g f k) (fun i _ => g.us.length - (intOf i).toNat)
      case atStart => exact ⟨0, _, by omega, rfl, hF0, hXf, snd_none g, fun i n hi => by omega⟩
      case round =>
        clear hF0 hXf cO
        obtain ⟨k, f, hk, rfl, hF, hEf, hSf, hRi⟩ := hrel
        have cO := ((kO.ext hE).ext hEf).cell
        have lf := (World.ownsRow.lt hF bf rfl).2
        have hSi := own_ext hS hEf
        have li := (World.ownsRow.lt hSi bi rfl).2
        have HSf := Lib.hid hSf
        have HRi := Lib.hid hRi
        clear hSf hRi
        by_cases hlt : k < g.us.length
        · have hdec : decide ((k : Int) < g.us.length) = true := by simp; omega
          have hdec' : decide (k < g.us.length) = true := by simp; omega
          have hkb : (k : Int) < g.us.length := by omega
          obtain ⟨u, hu⟩ : ∃ u, g.us[k]? = some u := ⟨_, List.getElem?_eq_getElem hlt⟩
          obtain ⟨bb, ob, hBB, hcb⟩ := rd_vb ((hU0.ext hE).ext hEf) hu
          cases hBB
          have Hu := Lib.hid hu
          clear hu
          have lbb := cell_lt hcb
          cases u
          · go_wp2
            go_roundw
            case rel => exact ⟨k + 1, f, by omega, by go_num, hF, hEf, HSf.out, HRi.out.next (fun hu => by rw [Hu.out] at hu; cases hu)⟩
            case measure => simp [intOf]; omega
          · obtain ⟨r, hr⟩ : ∃ r, g.rs[k]? = some r := ⟨_, List.getElem?_eq_getElem (by have := hlu.out; have := hlr.out; omega)⟩
            have hrb := Hv.out.us k r Hu.out hr
            obtain ⟨m, rfl⟩ : ∃ m : Nat, r = m := ⟨r.toNat, by omega⟩
            obtain ⟨bc, oc, hCC, hcc⟩ := rd_ints ((hC0.ext hE).ext hEf) hr
            cases hCC
            have Hr := Lib.hid hr
            clear hr
            have lbc := cell_lt hcc
            have n1 : m < g.ns.length := by omega
            have n2 : (m : Int) < g.ns.length := by omega
            have n3 : k < g.rs.length := by have := hlu.out; have := hlr.out; omega
            have n4 : (k : Int) < g.rs.length := by omega
            have hin := (HA.out m).2 (Rch.root Hu.out Hr.out)
            obtain ⟨cI, fI⟩ := own_cells hSi
            have cIm := cI m _ (vb_at hin)
            obtain ⟨sb, hsb⟩ : ∃ sb, f[m]? = some sb := ⟨_, List.getElem?_eq_getElem (by rw [HSf.out.len]; exact n1)⟩
            obtain ⟨cF, fF⟩ := own_cells hF
            have cFm := cF m _ (vb_at hsb)
            clear hsb cF hrb cI hin
            go_wp2
            go_roundw
            case rel => exact ⟨k + 1, f.set m true, by omega, by go_num, own_mark hF, Ext.setCell hEf hbF _, HSf.out.mark (Rch.root Hu.out Hr.out), (HRi.out.mark m).next (fun _ n' hn' => by
              rw [Hr.out] at hn'
              have e : n' = m := by injection hn' with hn'; omega
              subst e
              exact get_mark.2 (.inl ⟨rfl, by rw [HSf.out.len]; exact n1⟩))⟩
            case measure => simp [intOf]; omega
        · have hdec : decide ((k : Int) < g.us.length) = false := by simp; omega
          have hdec' : decide (k < g.us.length) = false := by simp; omega
          have hkn : k = g.us.length := by omega
          subst hkn
          obtain ⟨W6, hW6⟩ : ∃ W6, W6 = wr := ⟨_, rfl⟩
          subst hW6
          have hE06 := hE.trans hEf
          have hle := sum_le Hub.out.2.2.2
          have hle2 : ∀ k, k ≤ g.ns.length → sumL g (seenTo s k) ≤ 6001000 := fun k hk => by
            have h1 := hle (seenTo s k)
            have h2 := seenTo_len s k
            omega
          have Hsl := Lib.hid HSn.out.len
          clear hle hU0 hC0
          go_wp2_with fail
          go_loopw [12, 97] (fun t i wr => ∃ k : Nat, k ≤ g.ns.length ∧ i = .int .i64 k ∧ t = .int .i64 (sumL g (seenTo s k)) ∧ Ext W6 wr) (fun _ i _ => g.ns.length - (intOf i).toNat)
          case atStart => exact ⟨0, by omega, rfl, rfl, Ext.refl _⟩
          case round =>
            clear cO
            obtain ⟨k, hk, rfl, rfl, hE6⟩ := hrel
            have cO := ((kO.ext hE06).ext hE6).cell
            have hSu := hle2 k hk
            obtain ⟨S, hSe⟩ : ∃ S, sumL g (seenTo s k) = S := ⟨_, rfl⟩
            rw [hSe] at hSu ⊢
            have HSe := Lib.hid hSe
            clear hSe
            by_cases hlt : k < g.ns.length
            · have hdec : decide ((k : Int) < g.ns.length) = true := by simp; omega
              have hdec' : decide (k < g.ns.length) = true := by simp; omega
              have hkb : (k : Int) < g.ns.length := by omega
              obtain ⟨x, hx0⟩ : ∃ x, g.ns[k]? = some x := ⟨_, List.getElem?_eq_getElem hlt⟩
              obtain ⟨ba, oa, R, cR, D, cD, hAA, q0, q1, hR, hD, _⟩ := hgW.node hx0
              cases hAA
              replace q0 := cell_ext (hE06.trans hE6) q0
              replace q1 := cell_ext (hE06.trans hE6) q1
              have lq := cell_lt q0
              have hnd := Hv.out.nd k x hx0
              have x1 := hnd.1
              have x2 := hnd.2.1
              have Hn := Lib.hid hnd.2.2
              have Hx := Lib.hid hx0
              obtain ⟨u, hu⟩ : ∃ u, s[k]? = some u := ⟨_, List.getElem?_eq_getElem (by have := Hsl.out; omega)⟩
              have hSx := own_ext hSi hE6
              have lix := (World.ownsRow.lt hSx bi rfl).2
              obtain ⟨cI, fI⟩ := own_cells hSx
              have cIk := cI k _ (vb_at hu)
              have Hu := Lib.hid hu
              clear hx0 hnd hD hu cI
              go_upto_region 23 with fail
              have hX7 := Ext.alloc (Ext.refl wr) (.cells #[.slice R x.1.length cR, .slice D x.2.length cD] 49)
              have k14 : Blk (wr.alloc (.cells #[.slice R x.1.length cR, .slice D x.2.length cD] 49)) wr.heap.size 49 #[.slice R x.1.length cR, .slice D x.2.length cD] := Blk.new rfl
              generalize wr.alloc (.cells #[.slice R x.1.length cR, .slice D x.2.length cD] 49) = W7 at hX7 k14 ⊢
              generalize wr.heap.size = q at k14 ⊢
              have hE7 := hE6.trans hX7
              have c14 := k14.cell
              have l14 := k14.lt
              have cO7 := ((kO.ext hE06).ext hE7).cell
              have cIk7 := cell_ext hX7 cIk
              clear cO q0 q1 cIk fI
              cases u
              · go_wp2
                go_roundw
                case rel => exact ⟨k + 1, by omega, by go_num, by rw [seenTo_no Hu.out, HSe.out], hE7⟩
                case measure => simp [intOf]; omega
              · go_wp2_with fail
                go_loopw [120] (fun i wy => ∃ j : Nat, j ≤ x.1.length ∧ i = .int .i64 j ∧ W7 = wy) (fun i _ => x.1.length - (intOf i).toNat)
                case atStart => exact ⟨0, by omega, rfl, rfl⟩
                case round =>
                  obtain ⟨j, hj, rfl, rfl⟩ := hrel
                  by_cases hjl : j < x.1.length
                  · have jd : decide ((j : Int) < x.1.length) = true := by simp; omega
                    have jd' : decide (j < x.1.length) = true := by simp; omega
                    have jb : (j : Int) < x.1.length := by omega
                    obtain ⟨r, hr⟩ : ∃ r, x.1[j]? = some r := ⟨_, List.getElem?_eq_getElem hjl⟩
                    have hrb := Hn.out j r hr
                    obtain ⟨bR, oR, hRR, hcr⟩ := rd_ints (hR.ext (hE06.trans hE7)) hr
                    cases hRR
                    have lR := cell_lt hcr
                    have Hr := Lib.hid hr
                    clear hr
                    by_cases hr0 : r < 0
                    · have e : r = -1 := by omega
                      subst e
                      go_wp2
                      go_roundw
                      case rel => exact ⟨j + 1, by omega, by go_num, by trivial⟩
                      case measure => simp [intOf]; omega
                    · obtain ⟨m, rfl⟩ : ∃ m : Nat, r = m := ⟨r.toNat, by omega⟩
                      have n1 : m < g.ns.length := by omega
                      have n2 : (m : Int) < g.ns.length := by omega
                      have n3 : decide ((0 : Int) ≤ m) = true := by simp
                      have hin := (HA.out m).2 (Rch.step ((HA.out k).1 Hu.out) Hx.out Hr.out)
                      obtain ⟨cI, fI⟩ := own_cells (own_ext hSi hE7)
                      have cIm := cI m _ (vb_at hin)
                      have li7 := cell_lt cIm
                      clear cI fI hin hrb hr0
                      go_wp2
                      go_roundw
                      case rel => exact ⟨j + 1, by omega, by go_num, by trivial⟩
                      case measure => simp [intOf]; omega
                  · have jd : decide ((j : Int) < x.1.length) = false := by simp; omega
                    have jd' : decide (j < x.1.length) = false := by simp; omega
                    go_wp2_with fail
                    go_roundw
                    case rel => exact ⟨k + 1, by omega, by go_num, by rw [sum_seen x Hu.out Hx.out, HSe.out]; go_num, hE7⟩
                    case measure => simp [intOf]; omega
            · have hdec : decide ((k : Int) < g.ns.length) = false := by simp; omega
              have hdec' : decide (k < g.ns.length) = false := by simp; omega
              have hkn : k = g.ns.length := by omega
              subst hkn
              go_wp2_with fail
              have hEf6 := hEf.trans hE6
              have hF6 := own_ext hF hE6
              have HF0 := HSf.out
              have HR0 := HRi.out
              have hcount : f.count false ≤ g.ns.length := by have := HF0.len; have := List.count_le_length (a := false) (l := f); omega
              clear hF hEf hSi lf li cO
              go_loopw [138] (fun i wr => ∃ (r : Nat) (f : List Bool), r ≤ g.ns.length ∧ i = .int .i64 r ∧ wr.ownsRow Wf.heap.size 4 1 (.slice (some ⟨bf, 0, none⟩) g.ns.length g.ns.length) g.ns.length (vb f) ∧ Ext Wf wr ∧ Snd g f ∧ RootsIn g f g.us.length ∧ RoundOk g f r) (fun i _ => g.ns.length - (intOf i).toNat)
              case atStart => exact ⟨0, f, by omega, rfl, hF6, hEf6, HF0, HR0, .inr (by omega)⟩
              case round =>
                clear hF6 hEf6 HF0 HR0 hcount HSf HRi hE6 f
                obtain ⟨r, f0, hr, rfl, hF, hEf, hSf, hRi, hRo⟩ := hrel
                have cO := ((kO.ext hE).ext hEf).cell
                have HSf := Lib.hid hSf
                have HRi := Lib.hid hRi
                have HRo := Lib.hid hRo
                clear hSf hRi hRo
                by_cases hlt : r < g.ns.length
                · have hdec : decide ((r : Int) < g.ns.length) = true := by simp; omega
                  have hdec' : decide (r < g.ns.length) = true := by simp; omega
                  have rb : (r : Int) < g.ns.length := by omega
                  go_wp2_with fail
                  go_loopw [143] (fun i wr => ∃ (b : Bool) (f : List Bool) (k : Nat), i = .int .i64 k ∧ k ≤ g.ns.length ∧ wr.ownsRow Wf.heap.size 4 1 (.slice (some ⟨bf, 0, none⟩) g.ns.length g.ns.length) g.ns.length (vb f) ∧ Ext Wf wr ∧ Snd g f ∧ RootsIn g f g.us.length ∧
                    (∀ i : Nat, f0[i]? = some true → f[i]? = some true) ∧ (b = false → f = f0 ∧ ClosedTo g f k) ∧ (b = true → f.count false < f0.count false)) (fun i _ => g.ns.length - (intOf i).toNat)
                  case atStart => exact ⟨false, f0, 0, rfl, by omega, hF, hEf, HSf.out, HRi.out, fun _ h => h, fun _ => ⟨rfl, fun m n j x hm => by omega⟩, fun h => by cases h⟩
                  case round =>
                    clear hF hEf cO
                    obtain ⟨b, f, k, rfl, hk, hF, hEf, hSn, hRi, hMo, hC0, hC1⟩ := hrel
                    have cO := ((kO.ext hE).ext hEf).cell
                    by_cases hlt : k < g.ns.length
                    · have hdec : decide ((k : Int) < g.ns.length) = true := by simp; omega
                      have hdec' : decide (k < g.ns.length) = true := by simp; omega
                      have hkb : (k : Int) < g.ns.length := by omega
                      obtain ⟨x, hx0⟩ : ∃ x, g.ns[k]? = some x := ⟨_, List.getElem?_eq_getElem hlt⟩
                      obtain ⟨ba, oa, R, cR, D, cD, hAA, q0, q1, hR, hD, _⟩ := hgW.node hx0
                      cases hAA
                      replace q0 := cell_ext (hE.trans hEf) q0
                      replace q1 := cell_ext (hE.trans hEf) q1
                      have lq := cell_lt q0
                      have hn := Hv.out.nd k x hx0
                      have hxl := hn.1
                      have Hn := Lib.hid hn.2.2
                      have Hx := Lib.hid hx0
                      clear hx0 hn hD
                      have HSn := Lib.hid hSn
                      have HRi2 := Lib.hid hRi
                      have HMo := Lib.hid hMo
                      have HC0 := Lib.hid hC0
                      have HC1 := Lib.hid hC1
                      clear hSn hRi hC0 hC1 hMo
                      go_upto_region 37 with fail
                      have hX5 := Ext.alloc (Ext.refl wr) (.cells #[.slice R x.1.length cR, .slice D x.2.length cD] 49)
                      have k5 : Blk (wr.alloc (.cells #[.slice R x.1.length cR, .slice D x.2.length cD] 49)) wr.heap.size 49 #[.slice R x.1.length cR, .slice D x.2.length cD] := Blk.new rfl
                      generalize wr.alloc (.cells #[.slice R x.1.length cR, .slice D x.2.length cD] 49) = W8 at hX5 k5 ⊢
                      generalize wr.heap.size = q at k5 ⊢
                      have hF5 := own_ext hF hX5
                      have hEf5 := hEf.trans hX5
                      clear hF cO q0 q1 lq
                      have m5 := k5.cell
                      have l5 := k5.lt
                      go_wp2_with fail
                      go_loopw [151] (fun i wd => ∃ (b : Bool) (f : List Bool) (j : Nat), i = .int .i64 j ∧ j ≤ x.1.length ∧ wd.ownsRow Wf.heap.size 4 1 (.slice (some ⟨bf, 0, none⟩) g.ns.length g.ns.length) g.ns.length (vb f) ∧ Ext Wf wd ∧ Snd g f ∧ RootsIn g f g.us.length ∧
                        (∀ i : Nat, f0[i]? = some true → f[i]? = some true) ∧ (b = false → f = f0 ∧ ClosedTo g f k ∧ (f[k]? = some true → ∀ (i n : Nat), i < j → x.1[i]? = some (n : Int) → f[n]? = some true)) ∧ (b = true → f.count false < f0.count false)) (fun i _ => x.1.length - (intOf i).toNat)
                      case atStart => exact ⟨b, f, 0, rfl, by omega, hF5, hEf5, HSn.out, HRi2.out, HMo.out, fun hb => ⟨(HC0.out hb).1, (HC0.out hb).2, fun _ i n hi => by omega⟩, HC1.out⟩
                      case round =>
                        clear hF5 hEf5 HSn HRi2 HMo HC0 HC1 m5 l5
                        obtain ⟨b, f, j, rfl, hj, hF, hEf, hSn, hRi, hMo, hC0, hC1⟩ := hrel
                        have HSn := Lib.hid hSn
                        have HRi2 := Lib.hid hRi
                        have HMo := Lib.hid hMo
                        have HC0 := Lib.hid hC0
                        have HC1 := Lib.hid hC1
                        have lb := (World.ownsRow.lt hF bf rfl).2
                        have hnode : ∀ (i : Nat), i < g.ns.length → ∃ u, f[i]? = some u := fun i hi => ⟨_, List.getElem?_eq_getElem (by rw [hSn.len]; exact hi)⟩
                        obtain ⟨u, hu⟩ := hnode k hlt
                        obtain ⟨cS, fS⟩ := own_cells hF
                        have cSk := cS k _ (vb_at hu)
                        have Hu := Lib.hid hu
                        have Hnode := Lib.hid hnode
                        clear hSn hRi hC0 hC1 hMo hu hnode
                        by_cases hjl : j < x.1.length
                        · have jd : decide ((j : Int) < x.1.length) = true := by simp; omega
                          have jd' : decide (j < x.1.length) = true := by simp; omega
                          have jb : (j : Int) < x.1.length := by omega
                          obtain ⟨rr, hrr⟩ : ∃ rr, x.1[j]? = some rr := ⟨_, List.getElem?_eq_getElem hjl⟩
                          have hrb := Hn.out j rr hrr
                          obtain ⟨bR, oR, hRR, hcr⟩ := rd_ints (hR.ext (hE.trans hEf)) hrr
                          cases hRR
                          have lR := cell_lt hcr
                          have Hr := Lib.hid hrr
                          clear hrr
                          cases u
                          · clear cS
                            go_wp2
                            go_roundw
                            case rel => exact ⟨b, f, j + 1, by go_num, by omega, hF, hEf, HSn.out, HRi2.out, HMo.out, fun hb => ⟨(HC0.out hb).1, (HC0.out hb).2.1, fun hk => by rw [Hu.out] at hk; cases hk⟩, HC1.out⟩
                            case measure => simp [intOf]; omega
                          · by_cases hr0 : rr < 0
                            · have e : rr = -1 := by omega
                              subst e
                              clear cS
                              go_wp2
                              go_roundw
                              case rel => exact ⟨b, f, j + 1, by go_num, by omega, hF, hEf, HSn.out, HRi2.out, HMo.out, fun hb => ⟨(HC0.out hb).1, (HC0.out hb).2.1, fun hk i n hi hn => by
                                rcases Nat.lt_or_ge i j with h1 | h1
                                · exact (HC0.out hb).2.2 hk i n h1 hn
                                · have : i = j := by omega
                                  subst this
                                  rw [Hr.out] at hn
                                  injection hn with hn
                                  omega⟩, HC1.out⟩
                              case measure => simp [intOf]; omega
                            · obtain ⟨m, rfl⟩ : ∃ m : Nat, rr = m := ⟨rr.toNat, by omega⟩
                              have n1 : m < g.ns.length := by omega
                              have n2 : (m : Int) < g.ns.length := by omega
                              have n3 : decide ((0 : Int) ≤ m) = true := by simp
                              obtain ⟨t, ht⟩ := Hnode.out m n1
                              have cSn := cS m _ (vb_at ht)
                              have Ht := Lib.hid ht
                              clear ht cS hrb hr0
                              have hRm := Rch.step (HSn.out.snd k Hu.out) Hx.out Hr.out
                              cases t
                              · go_wp2
                                go_roundw
                                case rel =>
                                  have hlt2 := count_mark Ht.out
                                  have hle : f.count false ≤ f0.count false := by
                                    cases b
                                    · rw [(HC0.out rfl).1]; omega
                                    · have := HC1.out rfl; omega
                                  exact ⟨true, f.set m true, j + 1, by go_num, by omega, own_mark hF, Ext.setCell hEf hbF _, HSn.out.mark hRm, HRi2.out.mark m, fun i hi => get_mark.2 (.inr (HMo.out i hi)), (fun h => by cases h), fun _ => by omega⟩
                                case measure => simp [intOf]; omega
                              · have hsame := set_same Ht.out
                                have hF' := own_mark (x := m) hF
                                rw [hsame] at hF'
                                clear hsame
                                go_wp2
                                go_roundw
                                case rel => exact ⟨b, f, j + 1, by go_num, by omega, hF', Ext.setCell hEf hbF _, HSn.out, HRi2.out, HMo.out, fun hb => ⟨(HC0.out hb).1, (HC0.out hb).2.1, fun hk i m' hi hm => by
                                  rcases Nat.lt_or_ge i j with h1 | h1
                                  · exact (HC0.out hb).2.2 hk i m' h1 hm
                                  · have : i = j := by omega
                                    subst this
                                    rw [Hr.out] at hm
                                    injection hm with hm
                                    have : m' = m := by omega
                                    subst this
                                    exact Ht.out⟩, HC1.out⟩
                                case measure => simp [intOf]; omega
                        · have jd : decide ((j : Int) < x.1.length) = false := by simp; omega
                          have jd' : decide (j < x.1.length) = false := by simp; omega
                          have hjn : j = x.1.length := by omega
                          subst hjn
                          clear cS cSk
                          go_wp2_with fail
                          go_roundw
                          case rel => exact ⟨b, f, k + 1, by go_num, by omega, hF, hEf, HSn.out, HRi2.out, HMo.out, fun hb => ⟨(HC0.out hb).1, (HC0.out hb).2.1.next (fun n i y h1 h2 h3 => by
                            rw [Hx.out] at h2
                            injection h2 with h2
                            subst h2
                            exact (HC0.out hb).2.2 h1 i n (List.getElem?_eq_some_iff.1 h3).1 h3)⟩, HC1.out⟩
                          case measure => simp [intOf]; omega
                    · have hdec : decide ((k : Int) < g.ns.length) = false := by simp; omega
                      have hdec' : decide (k < g.ns.length) = false := by simp; omega
                      have hkn : k = g.ns.length := by omega
                      subst hkn
                      have hro := round_next Hv.out HSf.out HRi.out HRo.out hSn hMo hC0 hC1
                      have HRo2 := Lib.hid hro
                      clear hro
                      go_wp2_with fail
                      go_roundw
                      case rel => exact ⟨r + 1, f, by omega, by go_num, hF, hEf, hSn, hRi, HRo2.out⟩
                      case measure => simp [intOf]; omega
                · have hdec : decide ((r : Int) < g.ns.length) = false := by simp; omega
                  have hdec' : decide (r < g.ns.length) = false := by simp; omega
                  have hrn : r = g.ns.length := by omega
                  subst hrn
                  have hdone := reach_done HSf.out HRi.out (HRo.out.done Hv.out HSf.out)
                  go_wp2_with fail
                  have hsame : ∀ i, i < g.ns.length → ∃ u, s[i]? = some u ∧ f0[i]? = some u := fun i hi => by
                    have g1 : s[i]? = some (s[i]'(by have := Hsl.out; omega)) := List.getElem?_eq_getElem _
                    have g2 : f0[i]? = some (f0[i]'(by have := HSf.out.len; omega)) := List.getElem?_eq_getElem _
                    refine ⟨_, g1, ?_⟩
                    rw [g2]
                    congr 1
                    have h1 := HA.out i
                    have h2 := hdone i
                    rw [g1] at h1
                    rw [g2] at h2
                    have h3 := h2.trans h1.symm
                    simp only [Option.some.injEq] at h3
                    exact Bool.eq_iff_iff.2 h3
                  have Hsame := Lib.hid hsame
                  have hlS : liveT g = S := by
                    unfold liveT
                    rw [← seenTo_all HSn.out HA.out]
                    exact HSe.out
                  have HlS := Lib.hid hlS
                  have hSi := own_ext hS hEf
                  have li := (World.ownsRow.lt hSi bi rfl).2
                  have lf := (World.ownsRow.lt hF bf rfl).2
                  clear hsame hlS hdone cO
                  obtain ⟨W9, hW9⟩ : ∃ W9, W9 = wr := ⟨_, rfl⟩
                  subst hW9
                  go_loopw [171] (fun i wx => ∃ k : Nat, k ≤ g.ns.length ∧ i = .int .i64 k ∧ Ext W9 wx) (fun i _ => g.ns.length - (intOf i).toNat)
                  case atStart => exact ⟨0, by omega, rfl, Ext.refl _⟩
                  case round =>
                    obtain ⟨k, hk, rfl, hEx⟩ := hrel
                    by_cases hlt : k < g.ns.length
                    · have hdec : decide ((k : Int) < g.ns.length) = true := by simp; omega
                      have hdec' : decide (k < g.ns.length) = true := by simp; omega
                      have hkb : (k : Int) < g.ns.length := by omega
                      obtain ⟨u, h1, h2⟩ := Hsame.out k hlt
                      have hSx := own_ext hSi hEx
                      have hFx := own_ext hF hEx
                      have lix := (World.ownsRow.lt hSx bi rfl).2
                      have lfx := (World.ownsRow.lt hFx bf rfl).2
                      obtain ⟨cI, fI⟩ := own_cells hSx
                      obtain ⟨cF, fF⟩ := own_cells hFx
                      have cIk := cI k _ (vb_at h1)
                      have cFk := cF k _ (vb_at h2)
                      have huu : (u != u) = false := by cases u <;> rfl
                      clear cI cF h1 h2 fI fF
                      go_upto_region 48 with fail
                      refine wp_region_ext [(true, 0), (true, 1), (true, 2), (true, 3), (true, 4), (true, 5), (true, 6), (true, 7), (true, 8)] Try.mixed (by kernel_rfl) (by simp only [pick, List.filterMap_cons, List.filterMap_nil, List.getElem?_toArray, List.getElem?_cons_succ, List.getElem?_cons_zero, Option.map_some]; rfl) ?_
                      intro hx
                      repeat (first
                        | (refine wpL_take hx (v := ?_) (by rfl) (fun _ hc => ?_) ?_
                           rotate_left
                           focus (go_simp; (try go_ints); exact rfl)
                           simp only [Act.put, List.setIfInBounds_toArray, List.set_cons_zero, List.set_cons_succ])
                        | (refine wpL_skip (by rfl) ?_; simp only [Act.put, List.setIfInBounds_toArray, List.set_cons_zero, List.set_cons_succ])
                        | (refine wpL_call (by rfl) (fun K hK => ?_); go_simp; (first | (refine hK _ _ ?_ ?_; (focus ((repeat (first | (with_reducible exact Ext.refl _) | assumption | (with_reducible refine Ext.alloc ?_ _) | (with_reducible refine Ext.drew ?_) | (with_reducible refine Ext.drewL ?_) | refine Ext.trans ?_ (by assumption))); done))) | (refine hK undef _ ?_ ?_; (focus ((repeat (first | (with_reducible exact Ext.refl _) | assumption | (with_reducible refine Ext.alloc ?_ _) | (with_reducible refine Ext.drew ?_) | (with_reducible refine Ext.drewL ?_) | refine Ext.trans ?_ (by assumption))); done)))); clear hK; intro hr; replace hx := hx.trans hr; clear hr; try simp only [Act.put, List.setIfInBounds_toArray, List.set_cons_zero, List.set_cons_succ]))
                      refine wpL_end ?_
                      go_wp2
                      go_roundw
                      case rel => exact ⟨k + 1, by omega, by go_num, Ext.drew hEx⟩
                      case measure => simp [intOf]; omega
                    · have hdec : decide ((k : Int) < g.ns.length) = false := by simp; omega
                      have hdec' : decide (k < g.ns.length) = false := by simp; omega
                      have cO := (((kO.ext hE).ext hEf).ext hEx).cell
                      have hrd := ((hgW.ext hE).ext hEf).ext hEx
                      go_wp2_with (first | (go_at_call 18; refine (aw_live (n := S) Hv.out (by omega) HlS.out _ _ hrd).mono ?_; rintro e w4 ⟨rfl, hE4⟩) | (go_at_call 13; refine (awake_any _).mono ?_; rintro e w5 ⟨rfl, hE5⟩))
                      go_ret
                      exact ⟨rfl, hEW.trans (hE.trans (hEf.trans (hEx.trans (hE4.trans hE5))))⟩
end Go.Proofs.Ytamghjilcfeheaa
