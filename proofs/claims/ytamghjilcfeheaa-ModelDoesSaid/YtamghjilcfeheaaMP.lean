/- The set of nodes that are seen, with a list of those to be worked on. Plain facts, no walk. The walk of the model's push. Conditions: the ranges that each theorem states. The walk of the model's Reach. Conditions: the ranges that each theorem states. The walk of the model's Live. Conditions: the ranges that each theorem states. -/
import Derived.Test.YtamghjilcfeheaaMU
import Derived.Test.YtamghjilcfeheaaInv
namespace Go.Proofs.Ytamghjilcfeheaa
open Go.RowKit Go.Draw

def pushS (s : List Bool) (x : Int) : List Bool := if 0 ≤ x ∧ s.getD x.toNat true = false then s.set x.toNat true else s
def pushW (s : List Bool) (wl : List Nat) (x : Int) : List Nat := if 0 ≤ x ∧ s.getD x.toNat true = false then wl ++ [x.toNat] else wl
theorem push_new {s : List Bool} {wl : List Nat} {x : Nat} (h : s[x]? = some false) : pushS s x = s.set x true ∧ pushW s wl x = wl ++ [x] := by
  have h1 : s.getD ((x : Int)).toNat true = false := by simp [List.getD_eq_getElem?_getD, h]
  have h2 : (0 : Int) ≤ (x : Int) ∧ s.getD ((x : Int)).toNat true = false := ⟨by omega, h1⟩
  unfold pushS pushW
  rw [if_pos h2, if_pos h2]
  simp
theorem push_old {s : List Bool} {wl : List Nat} {x : Int} (h : x < 0 ∨ s[x.toNat]? = some true) : pushS s x = s ∧ pushW s wl x = wl := by
  have h2 : ¬ (0 ≤ x ∧ s.getD x.toNat true = false) := by
    rintro ⟨h0, h1⟩
    rcases h with h | h
    · omega
    · rw [List.getD_eq_getElem?_getD, h] at h1
      cases h1
  unfold pushS pushW
  rw [if_neg h2, if_neg h2]
  exact ⟨rfl, rfl⟩
/-- what holds between two steps; ex: a node whose references are gone through -/
structure PI (g : Gr) (s : List Bool) (wl : List Nat) (ex : Nat → Prop) : Prop where
  snd : Snd g s
  wls : ∀ n ∈ wl, s[n]? = some true
  cl : ∀ (m n j : Nat) (x : List Int × List Int), s[m]? = some true → m ∉ wl → ¬ ex m → g.ns[m]? = some x → x.1[j]? = some (n : Int) → s[n]? = some true
theorem PI.push {g : Gr} {s : List Bool} {wl : List Nat} {ex : Nat → Prop} (h : PI g s wl ex) {x : Int} (hx : x < g.ns.length) (hr : ∀ n : Nat, x = n → Rch g n) :
    PI g (pushS s x) (pushW s wl x) ex ∧ (∀ i : Nat, s[i]? = some true → (pushS s x)[i]? = some true) ∧ (∀ n : Nat, x = n → (pushS s x)[n]? = some true) ∧
      2 * (pushS s x).count false + (pushW s wl x).length ≤ 2 * s.count false + wl.length ∧ (pushW s wl x).length ≤ wl.length + 1 := by
  by_cases h0 : x < 0
  · obtain ⟨e1, e2⟩ := push_old (s := s) (wl := wl) (x := x) (.inl h0)
    rw [e1, e2]
    exact ⟨h, fun _ hi => hi, fun n hn => by omega, by omega, by omega⟩
  · obtain ⟨n, rfl⟩ : ∃ n : Nat, x = n := ⟨x.toNat, by omega⟩
    have hn : n < s.length := by rw [h.snd.len]; omega
    have hg : s[n]? = some s[n] := List.getElem?_eq_getElem hn
    cases hs : s[n] with
    | true =>
      rw [hs] at hg
      obtain ⟨e1, e2⟩ := push_old (s := s) (wl := wl) (x := n) (.inr (by simpa using hg))
      rw [e1, e2]
      exact ⟨h, fun _ hi => hi, fun m hm => by have : m = n := by omega
                                               subst this; exact hg, by omega, by omega⟩
    | false =>
      rw [hs] at hg
      obtain ⟨e1, e2⟩ := push_new (s := s) (wl := wl) hg
      rw [e1, e2]
      have hc := count_mark hg
      refine ⟨⟨h.snd.mark (hr n rfl), fun m hm => ?_, fun m k j y hm hw he hy hk => ?_⟩, fun i hi => get_mark.2 (.inr hi), fun m hm => ?_, by simp; omega, by simp⟩
      · rcases List.mem_append.1 hm with hm | hm
        · exact get_mark.2 (.inr (h.wls m hm))
        · have := List.mem_singleton.1 hm
          subst this
          exact get_mark.2 (.inl ⟨rfl, hn⟩)
      · rcases get_mark.1 hm with ⟨rfl, _⟩ | hm
        · exact absurd (List.mem_append_right _ (List.mem_singleton.2 rfl)) hw
        · exact get_mark.2 (.inr (h.cl m k j y hm (fun hh => hw (List.mem_append_left _ hh)) he hy hk))
      · have : m = n := by omega
        subst this
        exact get_mark.2 (.inl ⟨rfl, hn⟩)
theorem RootsIn.push {g : Gr} {s s' : List Bool} {k : Nat} (h : RootsIn g s k) (hm : ∀ i : Nat, s[i]? = some true → s'[i]? = some true) : RootsIn g s' k := fun i n hi hu hr => hm _ (h i n hi hu hr)
theorem pi_none (g : Gr) : PI g (List.replicate g.ns.length false) [] (fun _ => False) := ⟨snd_none g, by simp, fun m n j x hm => by
  simp only [List.getElem?_replicate] at hm
  split at hm <;> cases hm⟩
theorem PI.done {g : Gr} {s : List Bool} (h : PI g s [] (fun _ => False)) (hr : RootsIn g s g.us.length) : seenTo s g.ns.length = reachL g :=
  seenTo_all h.snd (reach_done h.snd hr (fun m n j x _ h1 h2 h3 => h.cl m n j x h1 (by simp) (fun h => h) h2 h3))
theorem PI.pop {g : Gr} {s : List Bool} {wl : List Nat} {n : Nat} (h : PI g s (wl ++ [n]) (fun _ => False)) : PI g s wl (fun m => m = n) ∧ s[n]? = some true :=
  ⟨⟨h.snd, fun m hm => h.wls m (List.mem_append_left _ hm), fun m k j x h1 h2 h3 h4 h5 => h.cl m k j x h1 (fun hm => by
    rcases List.mem_append.1 hm with hm | hm
    · exact h2 hm
    · exact h3 (List.mem_singleton.1 hm)) (fun h => h) h4 h5⟩, h.wls n (by simp)⟩
theorem PI.close {g : Gr} {s : List Bool} {wl : List Nat} {n : Nat} {x : List Int × List Int} (h : PI g s wl (fun m => m = n)) (hx : g.ns[n]? = some x) (hc : ∀ (k j : Nat), x.1[j]? = some (k : Int) → s[k]? = some true) : PI g s wl (fun _ => False) :=
  ⟨h.snd, h.wls, fun m k j y h1 h2 _ h4 h5 => by
    by_cases hm : m = n
    · subst hm
      rw [hx] at h4
      injection h4 with h4
      subst h4
      exact hc k j h5
    · exact h.cl m k j y h1 h2 hm h4 h5⟩
/-- a row that is cut by its last cell -/
theorem own_cut {w : World} {base m c : Nat} {e : TypeId} {A : Option Addr} {xs : List Value} {v : Value} (h : w.ownsRow base e 1 (.slice A (m + 1) c) (m + 1) (xs ++ [v])) : w.ownsRow base e 1 (.slice A m c) m xs := by
  have hl : xs.length = m := by have := h.1; simp at this; omega
  refine ⟨by omega, ?_⟩
  rcases h.2 with ⟨_, h0⟩ | ⟨g, cap, cur, hv, hb, hg, hnc, hm, hcs, htake⟩
  · omega
  · refine .inr ⟨g, cap, cur, ?_, hb, hg, by omega, hm, hcs, ?_⟩
    · injection hv with h1 h2 h3
      rw [h1, h3]
    · have h1 : (cur.toList.take ((m + 1) * 1)).take m = (xs ++ [v]).take m := by rw [htake]
      rw [List.take_take] at h1
      simp only [Nat.mul_one, show min m (m + 1) = m by omega] at h1 ⊢
      rw [h1, List.take_append_of_le_length (by omega), List.take_of_length_le (by omega)]
def wlen (w : World) (b : Nat) : Nat :=
  match w.cell? ⟨b, 0, none⟩ with
  | some (.slice _ n _) => n
  | _ => 0
end Go.Proofs.Ytamghjilcfeheaa

namespace Go.Proofs.Ytamghjilcfeheaa
open Go.RowKit Go.Draw

structure RS (W : World) (N : Nat) (A : Option Addr) (c : Nat) (s : List Bool) (wl : List Nat) (wr : World) : Prop where
  ks : Blk wr (W.heap.size + 1) 24 #[.slice (some ⟨W.heap.size, 0, none⟩) N N]
  kw : Blk wr (W.heap.size + 1 + 1) 22 #[.slice A wl.length c]
  os : wr.ownsRow W.heap.size 4 1 (.slice (some ⟨W.heap.size, 0, none⟩) N N) N (vb s)
  ow : wr.ownsRow (W.heap.size + 3) 3 1 (.slice A wl.length c) wl.length (ints (nats wl))
  ext : Ext W wr
theorem RS.push {W w w2 : World} {N c c2 x : Nat} {A A2 : Option Addr} {s : List Bool} {wl : List Nat} (h : RS W N A c s wl w)
    (hO : w2.ownsRow (W.heap.size + 3) 3 1 (.slice A2 (wl.length + 1) c2) (wl.length + 1) (ints (nats wl) ++ [.int .i64 (x : Int)])) (hg : ((w.setCell ⟨W.heap.size, x, none⟩ (.bool true)).alloc (.cells #[.int .i64 (x : Int)] 3)).grownBy w2 (Value.slice A wl.length c).ownBlock) :
    RS W N A2 c2 (s.set x true) (wl ++ [x]) (w2.setCell ⟨W.heap.size + 1 + 1, 0, none⟩ (.slice A2 (wl.length + 1) c2)) := by
  have hb : ∀ q ∈ (Value.slice A wl.length c).ownBlock.toList, W.heap.size + 3 ≤ q := fun q hq => (World.ownsRow.lt h.ow q (by simpa using hq)).1
  have hB := but_grown hg
  have hs := own_mark (x := x) h.os
  have e : Ext (w.setCell ⟨W.heap.size, x, none⟩ (.bool true)) ((w.setCell ⟨W.heap.size, x, none⟩ (.bool true)).alloc (.cells #[.int .i64 (x : Int)] 3)) := Ext.alloc (Ext.refl _) _
  refine ⟨?_, ?_, ?_, ?_, ?_⟩
  · exact ((((h.ks.far (by show W.heap.size + 1 ≠ W.heap.size; omega) _).ext e).but hB (fun hm => by have := hb _ hm; omega))).far (by show W.heap.size + 1 ≠ W.heap.size + 1 + 1; omega) _
  · have := (((h.kw.far (p := ⟨W.heap.size, x, none⟩) (by show W.heap.size + 1 + 1 ≠ W.heap.size; omega) (.bool true)).ext e).but hB (fun hm => by have := hb _ hm; omega)).set_ 0 (.slice A2 (wl.length + 1) c2)
    simpa using this
  · refine own_but (own_but (own_ext hs e) hB (fun g hg hm => ?_)) (But.setCell (S := [W.heap.size + 1 + 1]) (But.refl _ _) (by simp) _) (fun g hg hm => ?_)
    · simp only [Value.ownBlock, Option.some.injEq] at hg
      have := hb _ hm
      omega
    · simp only [Value.ownBlock, Option.some.injEq] at hg
      have := List.mem_singleton.1 hm
      omega
  · rw [nats_snoc] at hO
    simp only [List.length_append, List.length_singleton]
    exact own_below hO (by show W.heap.size + 1 + 1 < W.heap.size + 3; omega) _
  · exact Ext.setCell (But.ext ((Ext.setCell h.ext (p := ⟨W.heap.size, x, none⟩) (by show W.heap.size ≤ W.heap.size; omega) _).trans e) hB (fun q hq => by have := hb q hq; omega)) (by show W.heap.size ≤ W.heap.size + 1 + 1; omega) _
theorem rd_oneS (w : World) (p : Addr) (u x : Value) (t : TypeId) : Rd ((w.setCell p u).alloc (.cells #[x] t)) (some ⟨w.heap.size, 0, none⟩) 1 1 [x] := by
  have := rd_one (w.setCell p u) x t
  simpa [World.setCell] using this
set_option maxHeartbeats 1000000 in
theorem push30_any (W : World) (N c : Nat) (A : Option Addr) (s : List Bool) (wl : List Nat) (x : Int) (w : World) (h : RS W N A c s wl w) (hs : s.length = N) (hx : x < N) (hN : N ≤ 1000) (hwl : wl.length ≤ 3000) :
    Calls Try.prog 30 #[.int .i64 x, .pointer (some ⟨W.heap.size + 1, 0, none⟩), .pointer (some ⟨W.heap.size + 1 + 1, 0, none⟩)] w fun r w' => (∃ v, r = .returned v) ∧ ∃ A' c', RS W N A' c' (pushS s x) (pushW s wl x) w' := by
  have c1 := h.ks.cell
  have c2 := h.kw.cell
  have l1 := h.ks.lt
  have l2 := h.kw.lt
  have hz := h.ext.size_le
  by_cases h0 : x < 0
  · have d0 : decide (0 ≤ x) = false := by simp; omega
    obtain ⟨e1, e2⟩ := push_old (s := s) (wl := wl) (x := x) (.inl h0)
    rw [e1, e2]
    clear e1 e2
    go_enter Try.func30, Try.ntmps30
    go_wp2
    exact bodyPost_end (v := .tuple #[]) (by simp [results, Try.results30, go_sem]) rfl ⟨⟨_, rfl⟩, A, c, h⟩
  · obtain ⟨x, rfl⟩ : ∃ n : Nat, x = n := ⟨x.toNat, by omega⟩
    have d0 : decide ((0 : Int) ≤ x) = true := by simp
    have hxN : x < N := by omega
    obtain ⟨u, hu⟩ : ∃ u, s[x]? = some u := ⟨_, List.getElem?_eq_getElem (by omega)⟩
    obtain ⟨cS, fS⟩ := own_cells h.os
    have cSx := cS x _ (vb_at hu)
    clear cS
    cases u
    · obtain ⟨e1, e2⟩ := push_new (s := s) (wl := wl) hu
      rw [e1, e2]
      have hw0 : W.heap.size + 1 + 1 ≠ W.heap.size := by omega
      have hub : W.heap.size + 1 + 1 ∉ (Value.slice A wl.length c).ownBlock.toList := fun hm => by have := (World.ownsRow.lt h.ow _ (by simpa using hm)).1; omega
      have hO1 : (w.setCell ⟨W.heap.size, x, none⟩ (.bool true)).ownsRow (W.heap.size + 3) 3 1 (.slice A wl.length c) wl.length (ints (nats wl)) := own_below h.ow (by show W.heap.size < W.heap.size + 3; omega) _
      clear e1 e2 hu hs
      go_enter Try.func30, Try.ntmps30
      go_wp2_with (first | (at_builtin; refine wpList_append rfl Try.el22 _ _ rfl (W.heap.size + 3) _ _ _ rfl (own_alloc hO1 _) _ 1 1 _ rfl (rd_oneS _ _ _ _ _) (by simp [Value.oneCell']) (by omega) (by omega) (by (first | omega | (simp; done) | (simp; omega))) ?_; intro A2 c2 w2 hO2 hg2 hat2; have hRS := h.push hO2 hg2; have kw2 := Blk.but (Blk.alloc (h.kw.far (p := ⟨W.heap.size, x, none⟩) hw0 (.bool true)) (.cells #[.int .i64 (x : Int)] 3)) (but_grown hg2) hub; have cw2 := kw2.cell; have fw2 := kw2.froz))
      exact bodyPost_end (v := .tuple #[]) (by simp [results, Try.results30, go_sem]) rfl ⟨⟨_, rfl⟩, A2, _, hRS⟩
    · obtain ⟨e1, e2⟩ := push_old (s := s) (wl := wl) (x := (x : Int)) (.inr (by simpa using hu))
      rw [e1, e2]
      clear e1 e2 hu hs
      go_enter Try.func30, Try.ntmps30
      go_wp2
      exact bodyPost_end (v := .tuple #[]) (by simp [results, Try.results30, go_sem]) rfl ⟨⟨_, rfl⟩, A, c, h⟩
end Go.Proofs.Ytamghjilcfeheaa

namespace Go.Proofs.Ytamghjilcfeheaa
open Go.RowKit Go.Draw

theorem RS.new {W : World} {N : Nat} (hN : N ≤ 1000) : RS W N none 0 (List.replicate N false) [] (((W.alloc (.cells (Array.replicate N (Value.bool false)) 4)).alloc (.cells #[.slice (some ⟨W.heap.size, 0, none⟩) N N] 24)).alloc (.cells #[.slice none 0 0] 22)) := by
  refine ⟨Blk.alloc (Blk.new (by simp)) _, Blk.new (by simp), own_alloc (own_alloc ?_ _) _, own_nil _ _ _ _, by (repeat (first | (with_reducible exact Ext.refl _) | assumption | (with_reducible refine Ext.alloc ?_ _) | (with_reducible refine Ext.drew ?_) | (with_reducible refine Ext.drewL ?_) | refine Ext.trans ?_ (by assumption)))⟩
  have := own_new (base := W.heap.size) (w := W) (cs := List.replicate N (Value.bool false)) (e := 4) (size := 1) (n := N) rfl (Nat.le_refl _) (by omega) (by simp)
  simpa [vb] using this
theorem RS.drew {W w : World} {N c : Nat} {A : Option Addr} {s : List Bool} {wl : List Nat} (h : RS W N A c s wl w) : RS W N A c s wl w.drew := ⟨h.ks, h.kw, h.os, h.ow, Ext.drew h.ext⟩
/-- the last one is taken off -/
theorem RS.pop {W w : World} {N c n : Nat} {A : Option Addr} {s : List Bool} {wl : List Nat} (h : RS W N A c s (wl ++ [n]) w) : RS W N A c s wl (w.setCell ⟨W.heap.size + 1 + 1, 0, none⟩ (.slice A wl.length c)) := by
  have e1 : (wl ++ [n]).length = wl.length + 1 := by simp
  have ho := h.ow
  rw [e1, ← nats_snoc] at ho
  refine ⟨h.ks.far (by show W.heap.size + 1 ≠ W.heap.size + 1 + 1; omega) _, by simpa using h.kw.set_ 0 (.slice A wl.length c), ?_, own_below (own_cut ho) (by show W.heap.size + 1 + 1 < W.heap.size + 3; omega) _, Ext.setCell h.ext (by show W.heap.size ≤ W.heap.size + 1 + 1; omega) _⟩
  exact own_but h.os (But.setCell (S := [W.heap.size + 1 + 1]) (But.refl _ _) (by simp) _) (fun g hg hm => by
    simp only [Value.ownBlock, Option.some.injEq] at hg
    have := List.mem_singleton.1 hm
    omega)
theorem RS.meas {W w : World} {N c : Nat} {A : Option Addr} {s : List Bool} {wl : List Nat} (h : RS W N A c s wl w) : 2 * unseen w W.heap.size N + wlen w (W.heap.size + 1 + 1) = 2 * s.count false + wl.length := by
  rw [unseen_own h.os]
  unfold wlen
  rw [h.kw.cell 0]
  rfl
set_option maxRecDepth 100000 in
set_option maxHeartbeats 2000000 in
theorem reach16_any (v : Value) (g : Gr) (w : World) (hg : GRd w v g) (hv : Vld g) (hb : g.ns.length ≤ 1000) : Calls Try.prog 16 #[v] w (RetInts w (nats (reachL g))) := by
  obtain ⟨A0, a0, B0, b0, C0, c0, rfl⟩ := hg.sl
  have hlu := Lib.hid hv.lu
  have hlr := Lib.hid hv.lr
  have Hv := Lib.hid hv
  have mk := fun W : World => run_mk (P := Try.prog) Try.el24 rfl g.ns.length (by omega) (by omega) W
  clear hv
  go_enter Try.func16, Try.ntmps16
  go_upto_region 1 with fail
  have hX := Ext.alloc (Ext.refl w) (.cells #[.slice A0 g.ns.length a0, .slice B0 g.us.length b0, .slice C0 g.rs.length c0] 26)
  have k1 : Blk (w.alloc (.cells #[.slice A0 g.ns.length a0, .slice B0 g.us.length b0, .slice C0 g.rs.length c0] 26)) w.heap.size 26 #[.slice A0 g.ns.length a0, .slice B0 g.us.length b0, .slice C0 g.rs.length c0] := Blk.new rfl
  generalize hW : w.alloc (.cells #[.slice A0 g.ns.length a0, .slice B0 g.us.length b0, .slice C0 g.rs.length c0] 26) = W at hX k1 ⊢
  clear hW
  have hgW := hg.ext hX
  have m1 := k1.cell
  have l1 := k1.lt
  have hsz := hX.size_le
  go_upto_region 4 with fail
  have hR0 := RS.new (W := W) hb
  generalize ((W.alloc (.cells (Array.replicate g.ns.length (Value.bool false)) 4)).alloc (.cells #[.slice (some ⟨W.heap.size, 0, none⟩) g.ns.length g.ns.length] 24)).alloc (.cells #[.slice none 0 0] 22) = W2 at hR0 ⊢
  clear mk m1
  have m1 := (k1.ext hR0.ext).cell
  obtain ⟨hU0, hC0⟩ := hgW.rows
  have hub : g.us.length ≤ 1000 := by have := hlu.out; omega
  go_wp2_with fail
  go_loopw [22] (fun i wr => ∃ (k : Nat) (s : List Bool) (wl : List Nat) (A : Option Addr) (c : Nat), k ≤ g.us.length ∧ i = .int .i64 k ∧ RS W g.ns.length A c s wl wr ∧ PI g s wl (fun _ => False) ∧ RootsIn g s k ∧ 2 * s.count false + wl.length ≤ 2 * g.ns.length) (fun i _ => g.us.length - (intOf i).toNat)
  case atStart => exact ⟨0, _, _, _, _, by omega, rfl, hR0, pi_none g, fun i n hi => by omega, by simp⟩
  case round =>
    clear hR0 m1
    obtain ⟨k, s, wl, A, c, hk, rfl, h, hPI, hRi, hcnt⟩ := hrel
    have k1' := k1.ext h.ext
    have m1' := k1'.cell
    have hsl := hPI.snd.len
    have HPI := Lib.hid hPI
    have HRi := Lib.hid hRi
    clear hPI hRi
    by_cases hlt : k < g.us.length
    · have hdec : decide ((k : Int) < g.us.length) = true := by simp; omega
      have hdec' : decide (k < g.us.length) = true := by simp; omega
      have hkb : (k : Int) < g.us.length := by omega
      obtain ⟨u, hu⟩ : ∃ u, g.us[k]? = some u := ⟨_, List.getElem?_eq_getElem hlt⟩
      obtain ⟨bb, ob, rfl, hcb⟩ := rd_vb (hU0.ext h.ext) hu
      have Hu := Lib.hid hu
      clear hu
      have lbb := cell_lt hcb
      cases u
      · go_wp2
        go_roundw
        case rel => exact ⟨k + 1, s, wl, A, c, by omega, by go_num, h, HPI.out, HRi.out.next (fun hu => by rw [Hu.out] at hu; cases hu), hcnt⟩
        case measure => simp [intOf]; omega
      · obtain ⟨r, hr⟩ : ∃ r, g.rs[k]? = some r := ⟨_, List.getElem?_eq_getElem (by have := hlu.out; have := hlr.out; omega)⟩
        have hrb := Hv.out.us k r Hu.out hr
        obtain ⟨n, rfl⟩ : ∃ n : Nat, r = n := ⟨r.toNat, by omega⟩
        obtain ⟨bc, oc, rfl, hcc⟩ := rd_ints (hC0.ext h.ext) hr
        have Hr := Lib.hid hr
        clear hr
        have lbc := cell_lt hcc
        have n3 : k < g.rs.length := by have := hlu.out; have := hlr.out; omega
        have n4 : (k : Int) < g.rs.length := by omega
        have hp := HPI.out.push (x := (n : Int)) (by omega) (fun m hm => by have : n = m := by omega
                                                                            subst this; exact Rch.root Hu.out Hr.out)
        obtain ⟨p1, p2, p3, p4, p5⟩ := hp
        have P1 := Lib.hid p1
        have P2 := Lib.hid p2
        have P3 := Lib.hid p3
        clear p1 p2 p3 p5
        go_wp2_with (first | (go_at_call 30; refine (push30_any W g.ns.length c A s wl _ _ h (by omega) (by omega) hb (by omega)).mono ?_; rintro e w1 ⟨⟨v9, rfl⟩, A2, c2, hRS⟩))
        go_roundw
        case rel => exact ⟨k + 1, _, _, A2, c2, by omega, by go_num, hRS, P1.out, (HRi.out.push P2.out).next (fun _ n' hn' => by
          rw [Hr.out] at hn'
          have e : n' = n := by injection hn' with hn'; omega
          subst e
          exact P3.out _ rfl), by omega⟩
        case measure => simp [intOf]; omega
    · have hdec : decide ((k : Int) < g.us.length) = false := by simp; omega
      have hdec' : decide (k < g.us.length) = false := by simp; omega
      have hkn : k = g.us.length := by omega
      subst hkn
      go_wp2_with fail
      go_loopw [] (fun wr => ∃ (s : List Bool) (wl : List Nat) (A : Option Addr) (c : Nat), RS W g.ns.length A c s wl wr ∧ PI g s wl (fun _ => False) ∧ RootsIn g s g.us.length ∧ 2 * s.count false + wl.length ≤ 2 * g.ns.length) (fun wr => 2 * unseen wr W.heap.size g.ns.length + wlen wr (W.heap.size + 1 + 1))
      case atStart => exact ⟨s, wl, A, c, h, HPI.out, HRi.out, hcnt⟩
      case round =>
        clear h hcnt k1' m1' hsl HPI hk HRi hlt hdec hdec' s wl A c
        obtain ⟨s, wl, A, c, h, hPI, hRi, hcnt⟩ := hrel
        have k1' := k1.ext h.ext
        have m1' := k1'.cell
        have hsl := hPI.snd.len
        have HRi := Lib.hid hRi
        clear hRi
        rcases List.eq_nil_or_concat wl with rfl | ⟨wl, n, rfl⟩
        · have hfin := hPI.done HRi.out
          have Hf := Lib.hid hfin
          have hsl' := Lib.hid hsl
          clear hfin hPI hcnt hU0 hC0 hlu hlr hsl
          have kw := h.kw
          have kw' : Blk wr (W.heap.size + 1 + 1) 22 #[.slice A 0 c] := kw
          have m3 := kw'.cell
          have m2 := h.ks.cell
          have bn : (g.ns.length : Int) ≤ 1000 := by omega
          go_wp2_with fail
          go_loopw [11, 67] (fun t i wr => ∃ (k : Nat) (B : Option Addr) (d : Nat), k ≤ g.ns.length ∧ i = .int .i64 k ∧ t = .slice B (seenTo s k).length d ∧ wr.ownsRow W.heap.size 3 1 (.slice B (seenTo s k).length d) (seenTo s k).length (ints (nats (seenTo s k))) ∧ wr.ownsRow W.heap.size 4 1 (.slice (some ⟨W.heap.size, 0, none⟩) g.ns.length g.ns.length) g.ns.length (vb s) ∧ Ext W wr) (fun _ i _ => g.ns.length - (intOf i).toNat)
          case atStart => exact ⟨0, none, 0, by omega, rfl, rfl, own_nil _ _ _ _, h.os, h.ext⟩
          case round =>
            clear h m1' k1' m2 m3 kw kw'
            obtain ⟨k, B, d, hk, rfl, rfl, hO, hS, hE⟩ := hrel
            have hll := seenTo_len s k
            by_cases hlt : k < g.ns.length
            · have hdec : decide ((k : Int) < g.ns.length) = true := by simp; omega
              have hdec' : decide (k < g.ns.length) = true := by simp; omega
              have hkb : (k : Int) < g.ns.length := by omega
              obtain ⟨u, hu⟩ : ∃ u, s[k]? = some u := ⟨_, List.getElem?_eq_getElem (by have := hS.1; simp [vb] at this; omega)⟩
              obtain ⟨cS, fS⟩ := own_cells hS
              have cSk := cS k _ (vb_at hu)
              have Hu := Lib.hid hu
              have lb := (World.ownsRow.lt hS W.heap.size rfl).2
              have hez := hE.size_le
              clear hu cS
              cases u
              · have hs := seenTo_no Hu.out
                have Hs := Lib.hid hs
                clear hs
                go_wp2
                go_roundw
                case rel => exact ⟨k + 1, B, d, by omega, by go_num, by rw [Hs.out], by rw [Hs.out]; exact hO, hS, hE⟩
                case measure => simp [intOf]; omega
              · have hs := seenTo_yes Hu.out
                have Hs := Lib.hid hs
                clear hs
                generalize hzl : seenTo s k = zl at *
                have Hzl := Lib.hid hzl
                clear hzl
                go_wp2_with (first | (at_builtin; refine wpList_append rfl Try.el22 _ _ rfl W.heap.size _ _ _ rfl (own_alloc hO _) _ 1 1 _ rfl (rd_one _ _ _) (by simp [Value.oneCell']) (by omega) (by omega) (by (first | omega | (simp; done) | (simp; omega))) ?_; intro A2 c2 w2 hO2 hg2 hat2))
                have hne : ∀ q, (Value.slice (some ⟨W.heap.size, 0, none⟩) g.ns.length g.ns.length).ownBlock = some q → q ∉ (Value.slice B zl.length d).ownBlock.toList := fun q hq hm => by
                  have h2 : (Value.slice B zl.length d).ownBlock = some q := by simpa using hm
                  exact own_apart hS hO (Ext.refl _) (by decide) q hq h2
                have g2 : (wr.alloc (.cells #[.int .i64 (k : Int)] 3)).grownBy w2 (Value.slice B zl.length d).ownBlock := hg2
                have hE2 : Ext W w2 := ext_grown (Ext.alloc hE _) hg2 (own_alloc hO _) (Nat.le_refl _)
                have hl2 : (zl ++ [k]).length = zl.length + 1 := by simp
                rw [nats_snoc] at hO2
                have hS2 := own_but (own_alloc hS (.cells #[.int .i64 (k : Int)] 3)) (but_grown g2) hne
                have Hl2 := Lib.hid hl2
                clear hl2 hne
                go_roundw
                case rel => exact ⟨k + 1, A2, c2, by omega, by go_num, by rw [Hs.out, Hl2.out], by rw [Hs.out, Hl2.out]; exact hO2, hS2, hE2⟩
                case measure => simp [intOf]; omega
            · have hdec : decide ((k : Int) < g.ns.length) = false := by simp; omega
              have hdec' : decide (k < g.ns.length) = false := by simp; omega
              have hkn : k = g.ns.length := by omega
              subst hkn
              rw [Hf.out] at hO ⊢
              go_wp2
              go_ret
              exact ⟨B, d, by rw [nats_len]; rfl, by rw [nats_len]; exact own_base hO hsz, hX.trans hE⟩
        · rw [List.concat_eq_append] at h hPI hcnt
          have e1 : (wl ++ [n]).length = wl.length + 1 := by simp
          have ow := h.ow
          have kw := h.kw
          rw [e1] at ow kw hcnt
          obtain ⟨bA, cA, hA⟩ := own_at ow (by omega)
          injection hA with hA _ hA3
          subst hA hA3
          have hcap : wl.length + 1 ≤ c := by
            rcases ow.2 with ⟨h0, _⟩ | ⟨g', cap, cur, hv', _, _, hnc, _⟩
            · cases h0
            · simp only [Value.slice.injEq] at hv'
              omega
          obtain ⟨cW, fW⟩ := own_cells ow
          have hcn := cW wl.length (.int .i64 (n : Int)) (ints_at (by simp [nats]))
          have lA := cell_lt hcn
          have m3 := kw.cell
          have f3 := kw.froz
          have l3 := kw.lt
          have hpop := h.pop
          obtain ⟨hPI2, hsn⟩ := hPI.pop
          have hn : n < g.ns.length := by rw [← hsl]; exact (List.getElem?_eq_some_iff.1 hsn).1
          obtain ⟨x, hx0⟩ : ∃ x, g.ns[n]? = some x := ⟨_, List.getElem?_eq_getElem hn⟩
          obtain ⟨ba, oa, R, cR, D, cD, rfl, q0, q1, hR, hD, lq0⟩ := hgW.node hx0
          have hnd := Hv.out.nd n x hx0
          have hxl := hnd.1
          have Hn := Lib.hid hnd.2.2
          have Hx := Lib.hid hx0
          have HPI2 := Lib.hid hPI2
          have Hsn := Lib.hid hsn
          have hmz := h.meas
          have d1 : decide ((0 : Int) < (wl.length : Int) + 1) = true := by first | (simp; done) | (simp; omega)
          have d2 : decide (0 < wl.length + 1) = true := by simp
          have d3 : (wl.length : Int) + 1 - 1 = wl.length := by omega
          have d4 : (wl.length : Int) ≤ c := by omega
          have d5 : wl.length ≤ c := by omega
          have d6 : (n : Int) < g.ns.length := by omega
          have d7 : (wl.length : Int) ≤ 3000 := by omega
          have nb : bA ≠ W.heap.size + 1 + 1 := by have := (World.ownsRow.lt ow bA rfl).1; omega
          have nb2 : ba ≠ W.heap.size + 1 + 1 := by omega
          have nb3 : w.heap.size ≠ W.heap.size + 1 + 1 := by omega
          have hz2 := hpop.ext.size_le
          clear hx0 hnd hPI2 hsn hPI hD q1 cW ow kw
          go_upto_region 13 with fail
          generalize wr.setCell ⟨W.heap.size + 1 + 1, 0, none⟩ (.slice (some ⟨bA, 0, none⟩) wl.length c) = wp at hpop hz2 ⊢
          have c0 : 2 * s.count false + wl.length < 2 * unseen wr W.heap.size g.ns.length + wlen wr (W.heap.size + 1 + 1) := by rw [hmz, e1]; omega
          clear h hmz e1 m3 f3 l3 fW hcn m1' k1' nb nb2 nb3 d1 d2 d3 d4 d5 hcap lA
          have m1' := (k1.ext hpop.ext).cell
          replace q0 := cell_ext hpop.ext q0
          have lq := cell_lt q0
          go_wp2_with fail
          go_loopw [57] (fun i wd => ∃ (j : Nat) (s2 : List Bool) (wl2 : List Nat) (A2 : Option Addr) (c2 : Nat), i = .int .i64 j ∧ j ≤ x.1.length ∧ RS W g.ns.length A2 c2 s2 wl2 wd ∧ PI g s2 wl2 (fun m => m = n) ∧ RootsIn g s2 g.us.length ∧ s2[n]? = some true ∧
            (∀ (i k : Nat), i < j → x.1[i]? = some (k : Int) → s2[k]? = some true) ∧ 2 * s2.count false + wl2.length ≤ 2 * s.count false + wl.length) (fun i _ => x.1.length - (intOf i).toNat)
          case atStart => exact ⟨0, s, wl, _, _, rfl, by omega, hpop, HPI2.out, HRi.out, Hsn.out, fun i k hi => by omega, by omega⟩
          case round =>
            clear hpop HPI2 HRi Hsn m1' q0 lq hsl
            obtain ⟨j, s2, wl2, A, c, rfl, hj, h, hPI, hRi, hsn, hcl, hc2⟩ := hrel
            have HRi := Lib.hid hRi
            have Hsn := Lib.hid hsn
            have Hcl := Lib.hid hcl
            have hsl2 := hPI.snd.len
            clear hRi hsn hcl
            have hw2 : wl2.length ≤ 3000 := by omega
            by_cases hjl : j < x.1.length
            · have jd : decide ((j : Int) < x.1.length) = true := by simp; omega
              have jd' : decide (j < x.1.length) = true := by simp; omega
              have jb : (j : Int) < x.1.length := by omega
              obtain ⟨r, hr⟩ : ∃ r, x.1[j]? = some r := ⟨_, List.getElem?_eq_getElem hjl⟩
              have hrb := Hn.out j r hr
              obtain ⟨bR, oR, rfl, hcr⟩ := rd_ints (hR.ext h.ext) hr
              have lR := cell_lt hcr
              have hp := hPI.push (x := r) hrb.2 (fun m hm => by subst hm; exact Rch.step (hPI.snd.snd n Hsn.out) Hx.out hr)
              obtain ⟨p1, p2, p3, p4, p5⟩ := hp
              have P1 := Lib.hid p1
              have P2 := Lib.hid p2
              have P3 := Lib.hid p3
              have Hr := Lib.hid hr
              clear p1 p2 p3 p5 hr hPI
              go_wp2_with (first | (go_at_call 30; refine (push30_any W g.ns.length c A s2 wl2 _ _ h hsl2 (by omega) hb hw2).mono ?_; rintro e w1 ⟨⟨v9, rfl⟩, A2, c2, hRS⟩))
              go_roundw
              case rel => exact ⟨j + 1, _, _, A2, c2, by go_num, by omega, hRS, P1.out, HRi.out.push P2.out, P2.out _ Hsn.out, fun i k hi hk => by
                rcases Nat.lt_or_ge i j with h1 | h1
                · exact P2.out _ (Hcl.out i k h1 hk)
                · have : i = j := by omega
                  subst this
                  rw [Hr.out] at hk
                  injection hk with hk
                  exact P3.out k hk, by omega⟩
              case measure => simp [intOf]; omega
            · have jd : decide ((j : Int) < x.1.length) = false := by simp; omega
              have jd' : decide (j < x.1.length) = false := by simp; omega
              have hjn : j = x.1.length := by omega
              subst hjn
              have hPI3 := hPI.close Hx.out (fun k i hk => Hcl.out i k (List.getElem?_eq_some_iff.1 hk).1 hk)
              go_wp2_with fail
              go_roundw
              case rel => exact ⟨s2, wl2, _, _, h, hPI3, HRi.out, by omega⟩
              case measure => rw [h.meas]; omega
end Go.Proofs.Ytamghjilcfeheaa

namespace Go.Proofs.Ytamghjilcfeheaa
open Go.RowKit Go.Draw

set_option maxRecDepth 100000 in
set_option maxHeartbeats 2000000 in
theorem live18_any (v : Value) (g : Gr) (w : World) (hg : GRd w v g) (hv : Vld g) (hb : Bd g) : Calls Try.prog 18 #[v] w fun r w' => r = .returned (.int .i64 (liveT g)) ∧ Ext w w' := by
  obtain ⟨A0, a0, B0, b0, C0, c0, rfl⟩ := hg.sl
  have hb0 := hb.1
  have hle := sum_le hb.2.2.2
  have hll := reachL_len g
  clear hb
  go_enter Try.func18, Try.ntmps18
  go_wp2_with (first | (go_at_call 16; refine (reach16_any _ g _ (hg.ext (by (repeat (first | (with_reducible exact Ext.refl _) | assumption | (with_reducible refine Ext.alloc ?_ _) | (with_reducible refine Ext.drew ?_) | (with_reducible refine Ext.drewL ?_) | refine Ext.trans ?_ (by assumption))))) hv hb0).mono ?_; rintro e w1 ⟨A, c, rfl, hO, hE1⟩; have k1 := (blk_of_ext hE1); have m1 := k1.cell))
  have hg1 := hg.ext ((Ext.alloc (Ext.refl w) (.cells #[.slice A0 g.ns.length a0, .slice B0 g.us.length b0, .slice C0 g.rs.length c0] 26)).trans hE1)
  have hEw : Ext w w1 := (Ext.alloc (Ext.refl w) _).trans hE1
  have hz := hEw.size_le
  simp only [nats_len] at hO ⊢
  have hRd := Rd.of_own hO
  clear hO hg
  obtain ⟨L, hL⟩ : ∃ L, reachL g = L := ⟨_, rfl⟩
  have hLt : ∀ n ∈ L, n < g.ns.length := fun n hn => reachL_lt (by rw [hL]; exact hn)
  have HL := Lib.hid (show liveT g = sumL g L by unfold liveT; rw [hL])
  rw [hL] at hRd hll ⊢
  have hle2 : ∀ k, sumL g (L.take k) ≤ 6001000 := fun k => by
    have h1 := hle (L.take k)
    have h2 : (L.take k).length ≤ L.length := by simp; omega
    omega
  clear hL hle
  have HLt := Lib.hid hLt
  clear hLt
  go_loopw [3, 9] (fun t i wr => ∃ k : Nat, k ≤ L.length ∧ i = .int .i64 k ∧ t = .int .i64 (sumL g (L.take k)) ∧ Ext w1 wr) (fun _ i _ => L.length - (intOf i).toNat)
  case atStart => exact ⟨0, by omega, rfl, rfl, Ext.refl _⟩
  case round =>
    clear m1
    obtain ⟨k, hk, rfl, rfl, hEr⟩ := hrel
    have m1 := (k1.ext hEr).cell
    have hS := hle2 k
    obtain ⟨S, hSe⟩ : ∃ S, sumL g (L.take k) = S := ⟨_, rfl⟩
    rw [hSe] at hS ⊢
    have HS := Lib.hid hSe
    clear hSe
    by_cases hlt : k < L.length
    · have hdec : decide ((k : Int) < L.length) = true := by simp; omega
      have hdec' : decide (k < L.length) = true := by simp; omega
      have hkb : (k : Int) < L.length := by omega
      obtain ⟨n, hn⟩ : ∃ n, L[k]? = some n := ⟨_, List.getElem?_eq_getElem hlt⟩
      have hnl := HLt.out n (List.mem_of_getElem? hn)
      obtain ⟨bb, oo, u, rfl, hu, hc⟩ := (hRd.ext hEr).at_ hlt
      have hu2 : (ints (nats L))[k]? = some (.int .i64 (n : Int)) := ints_at (by simp [nats, hn])
      rw [hu2] at hu
      injection hu with hu
      subst hu
      obtain ⟨x, hx⟩ : ∃ x, g.ns[n]? = some x := ⟨_, List.getElem?_eq_getElem hnl⟩
      obtain ⟨ba, oa, R, cR, D, cD, rfl, q0, q1, _, _, lq⟩ := (hg1.ext hEr).node hx
      have hnd := hv.nd n x hx
      have x1 := hnd.1
      have x2 := hnd.2.1
      have Hn := Lib.hid hn
      have Hx := Lib.hid hx
      have lbb := cell_lt hc
      have nb : (n : Int) < g.ns.length := by omega
      clear hn hx hnd hu2
      go_upto_region 5 with fail
      refine wp_region_ext [(true, 0), (true, 1), (true, 2), (true, 3), (true, 4), (true, 5), (true, 6), (true, 7), (true, 8), (true, 9), (true, 10), (true, 11), (true, 12), (true, 13), (true, 14), (true, 15), (true, 16), (true, 17), (true, 18)] Try.mixed (by kernel_rfl) (by simp only [pick, List.filterMap_cons, List.filterMap_nil, List.getElem?_toArray, List.getElem?_cons_succ, List.getElem?_cons_zero, Option.map_some]; rfl) ?_
      intro hx
      repeat (first
        | (refine wpL_take hx (v := ?_) (by rfl) (fun _ hc => ?_) ?_
           rotate_left
           focus (go_simp; (try go_ints); exact rfl)
           simp only [Act.put, List.setIfInBounds_toArray, List.set_cons_zero, List.set_cons_succ])
        | (refine wpL_skip (by rfl) ?_; simp only [Act.put, List.setIfInBounds_toArray, List.set_cons_zero, List.set_cons_succ])
        | (refine wpL_call (by rfl) (fun K hK => ?_); go_simp; (first | (refine hK _ _ ?_ ?_; (focus ((repeat (first | (with_reducible exact Ext.refl _) | assumption | (with_reducible refine Ext.alloc ?_ _) | (with_reducible refine Ext.drew ?_) | (with_reducible refine Ext.drewL ?_) | refine Ext.trans ?_ (by assumption))); done))) | (refine hK undef _ ?_ ?_; (focus ((repeat (first | (with_reducible exact Ext.refl _) | assumption | (with_reducible refine Ext.alloc ?_ _) | (with_reducible refine Ext.drew ?_) | (with_reducible refine Ext.drewL ?_) | refine Ext.trans ?_ (by assumption))); done)))); clear hK; intro hr; replace hx := hx.trans hr; clear hr; try simp only [Act.put, List.setIfInBounds_toArray, List.set_cons_zero, List.set_cons_succ]))
      refine wpL_end ?_
      go_wp2
      go_roundw
      case rel =>
        refine ⟨k + 1, by omega, by go_num, ?_, by (repeat (first | (with_reducible exact Ext.refl _) | assumption | (with_reducible refine Ext.alloc ?_ _) | (with_reducible refine Ext.drew ?_) | (with_reducible refine Ext.drewL ?_) | refine Ext.trans ?_ (by assumption)))⟩
        rw [List.take_add_one, Hn.out, Option.toList_some, sum_snoc, HS.out, List.getD_eq_getElem?_getD, Hx.out]
        simp only [Option.getD_some, wordsOf]
        go_num
      case measure => simp [intOf]; omega
    · have hdec : decide ((k : Int) < L.length) = false := by simp; omega
      have hdec' : decide (k < L.length) = false := by simp; omega
      have hkn : k = L.length := by omega
      subst hkn
      go_wp2
      go_ret
      exact ⟨ret_int (by rw [HL.out, ← HS.out, List.take_length]), hEw.trans hEr⟩
end Go.Proofs.Ytamghjilcfeheaa
