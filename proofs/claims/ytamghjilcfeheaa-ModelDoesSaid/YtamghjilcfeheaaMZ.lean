/- The walk of the choice of a handle. Conditions: the ranges that each theorem states. The walk of the choice of an operation. Conditions: the ranges that each theorem states. -/
import Derived.Test.YtamghjilcfeheaaKK
import Derived.Test.YtamghjilcfeheaaMU
import Derived.Test.YtamghjilcfeheaaInv
namespace Go.Proofs.Ytamghjilcfeheaa
open Go.RowKit Go.Draw

theorem but_undrew {S : List Nat} {a b : World} (h : But S a.drew b) : But S a b := ⟨h.os, h.tape, h.output, h.size, h.block⟩
theorem rd_but' {w w' : World} {A : Option Addr} {n size d : Nat} {xs : List Value} (h : Rd w A n size xs) (he : But [d] w w') (hS : 0 < n → ∀ ad, A = some ad → ad.block ≠ d) : Rd w' A n size xs :=
  rd_but h he (fun h0 ad h => by simp only [List.mem_singleton]; exact hS h0 ad h)
set_option maxHeartbeats 1000000 in
theorem h31_any (n u d m c : Nat) (U : Option Addr) (us : List Int) (w : World) (ku : Blk w u 22 #[.slice U m c]) (kd : Blk w n 28 #[.pointer (some ⟨d, 0, none⟩)]) (hD : Dk w d) (hr : Rd w U m 1 (ints us)) (hU : 0 < m → ∀ ad, U = some ad → ad.block ≠ d) (hm : m ≤ 1000) (hdu : u ≠ d) (hdn : n ≠ d) :
    Calls Try.prog 31 #[.pointer (some ⟨u, 0, none⟩), .pointer (some ⟨n, 0, none⟩)] w fun r w' => ∃ x, r = .returned (.int .i64 x) ∧ Dk w' d ∧ But [d] w w' := by
  have m0 := ku.cell
  have m1 := kd.cell
  have hud : u ∉ [d] := by simpa using hdu
  have hnd : n ∉ [d] := by simpa using hdn
  by_cases h0 : m = 0
  · subst h0
    go_enter Try.func31, Try.ntmps31
    go_wp2_with (first | (go_at_call 26; refine (next_any d _ _ (by assumption) (by omega) (by omega)).mono ?_; rintro e w1 ⟨x, rfl, hx0, hx1, hDk, hB⟩))
    go_ret
    exact ⟨x, rfl, hDk, hB⟩
  · have hd0 : (m == 0) = false := by simpa using h0
    have hd1 : ((m : Int) == 0) = false := by simp; omega
    go_enter Try.func31, Try.ntmps31
    go_upto_region 2 with (go_at_call 26; refine (next_any d _ _ (by assumption) (by omega) (by omega)).mono ?_; rintro e w1 ⟨z, rfl, hx0, hx1, hDk, hB⟩; cases hz : (z == 0)) 
    · have c0 := (ku.but hB hud).cell
      have c1 := (kd.but hB hnd).cell
      have hr1 := rd_but' hr hB hU
      obtain ⟨bU, oU, rfl, hcU⟩ := hr1.2 (by omega)
      have hbU : bU ≠ d := hU (by omega) _ rfl
      have hml := hr.1
      rw [ints_len, Nat.mul_one] at hml
      refine wp_region_treeB [d] (.take 0 (.take 1 (.take 2 (.take 3 (.alt 4 (.take 5 (.take 6 (.take 7 .done))) .none))))) Try.mixed (by kernel_rfl) ?_
      intro hx hy
      first
        | (refine wpT_takeB hx (v := ?_) (List.getElem?_toArray.trans (by rfl)) (by rfl) (fun _ hc => ?_) ?_
           rotate_left
           focus (go_simp; (try go_ints); exact rfl)
           simp only [Act.put, List.setIfInBounds_toArray, List.set_cons_zero, List.set_cons_succ])
        | (refine wpT_skip (List.getElem?_toArray.trans (by rfl)) (by rfl) ?_; simp only [Act.put, List.setIfInBounds_toArray, List.set_cons_zero, List.set_cons_succ])
      first
        | (refine wpT_takeB hx (v := ?_) (List.getElem?_toArray.trans (by rfl)) (by rfl) (fun _ hc => ?_) ?_
           rotate_left
           focus (go_simp; (try go_ints); exact rfl)
           simp only [Act.put, List.setIfInBounds_toArray, List.set_cons_zero, List.set_cons_succ])
        | (refine wpT_skip (List.getElem?_toArray.trans (by rfl)) (by rfl) ?_; simp only [Act.put, List.setIfInBounds_toArray, List.set_cons_zero, List.set_cons_succ])
      first
        | (refine wpT_takeB hx (v := ?_) (List.getElem?_toArray.trans (by rfl)) (by rfl) (fun _ hc => ?_) ?_
           rotate_left
           focus (go_simp; (try go_ints); exact rfl)
           simp only [Act.put, List.setIfInBounds_toArray, List.set_cons_zero, List.set_cons_succ])
        | (refine wpT_skip (List.getElem?_toArray.trans (by rfl)) (by rfl) ?_; simp only [Act.put, List.setIfInBounds_toArray, List.set_cons_zero, List.set_cons_succ])
      first
        | (refine wpT_takeB hx (v := ?_) (List.getElem?_toArray.trans (by rfl)) (by rfl) (fun _ hc => ?_) ?_
           rotate_left
           focus (go_simp; (try go_ints); exact rfl)
           simp only [Act.put, List.setIfInBounds_toArray, List.set_cons_zero, List.set_cons_succ])
        | (refine wpT_skip (List.getElem?_toArray.trans (by rfl)) (by rfl) ?_; simp only [Act.put, List.setIfInBounds_toArray, List.set_cons_zero, List.set_cons_succ])
      refine wpT_call (List.getElem?_toArray.trans (by rfl)) (by rfl) (fun K hK => ?_) ?_
      · skip
        go_simp
        go_at_call 26
        refine (next_any d m _ (hDk.ext (Ext.drew (Ext.refl _))) (by omega) (by omega)).mono ?_
        rintro e w1 ⟨x, rfl, hy0, hy1, hDk2, hB2⟩; (obtain ⟨i, rfl⟩ : ∃ i : Nat, x = i := ⟨x.toNat, by omega⟩); (obtain ⟨y, hy⟩ : ∃ y, us[i]? = some y := ⟨_, List.getElem?_eq_getElem (by omega)⟩); have hci := hcU i _ (ints_at hy); have hli := cell_lt hci; have hi1 : i < m := (by omega)
        refine hK _ _ (But.trans hB2 (But.refl _ _)) ?_
        clear hK
        intro hr
        replace hx := hx.trans hr
        clear hr
        try simp only [Act.put, List.setIfInBounds_toArray, List.set_cons_zero, List.set_cons_succ]
        first
          | (refine wpT_takeB hx (v := ?_) (List.getElem?_toArray.trans (by rfl)) (by rfl) (fun _ hc => ?_) ?_
             rotate_left
             focus (go_simp; (try go_ints); exact rfl)
             simp only [Act.put, List.setIfInBounds_toArray, List.set_cons_zero, List.set_cons_succ])
          | (refine wpT_skip (List.getElem?_toArray.trans (by rfl)) (by rfl) ?_; simp only [Act.put, List.setIfInBounds_toArray, List.set_cons_zero, List.set_cons_succ])
        first
          | (refine wpT_takeB hx (v := ?_) (List.getElem?_toArray.trans (by rfl)) (by rfl) (fun _ hc => ?_) ?_
             rotate_left
             focus (go_simp; (try go_ints); exact rfl)
             simp only [Act.put, List.setIfInBounds_toArray, List.set_cons_zero, List.set_cons_succ])
          | (refine wpT_skip (List.getElem?_toArray.trans (by rfl)) (by rfl) ?_; simp only [Act.put, List.setIfInBounds_toArray, List.set_cons_zero, List.set_cons_succ])
        first
          | (refine wpT_takeB hx (v := ?_) (List.getElem?_toArray.trans (by rfl)) (by rfl) (fun _ hc => ?_) ?_
             rotate_left
             focus (go_simp; (try go_ints); exact rfl)
             simp only [Act.put, List.setIfInBounds_toArray, List.set_cons_zero, List.set_cons_succ])
          | (refine wpT_skip (List.getElem?_toArray.trans (by rfl)) (by rfl) ?_; simp only [Act.put, List.setIfInBounds_toArray, List.set_cons_zero, List.set_cons_succ])
        refine wpT_done ?_
        go_wp2
        go_ret
        exact ⟨y, rfl, hDk2, hB.trans (by first | exact but_undrew hB2 | exact but_undrew (but_undrew hB2))⟩
      exact wpT_none
    · have c0 := (ku.but hB hud).cell
      have c1 := (kd.but hB hnd).cell
      go_wp2_with (go_at_call 26; refine (next_any d _ _ hDk (by omega) (by omega)).mono ?_; rintro e w2 ⟨y, rfl, hy0, hy1, hDk2, hB2⟩)
      go_ret
      exact ⟨y, rfl, hDk2, hB.trans hB2⟩
end Go.Proofs.Ytamghjilcfeheaa

namespace Go.Proofs.Ytamghjilcfeheaa
open Go.RowKit Go.Draw

/-- the words of the used handles -/
def usedTo (us : List Bool) (k : Nat) : List Int := (seenTo us k).map fun i : Nat => (i : Int) + 1
theorem usedTo_len (us : List Bool) (k : Nat) : (usedTo us k).length ≤ k := by
  have := seenTo_len us k
  simpa [usedTo] using this
theorem usedTo_yes {us : List Bool} {k : Nat} (h : us[k]? = some true) : usedTo us (k + 1) = usedTo us k ++ [(k : Int) + 1] := by
  unfold usedTo; rw [seenTo_yes h]; simp
theorem usedTo_no {us : List Bool} {k : Nat} (h : us[k]? = some false) : usedTo us (k + 1) = usedTo us k := by
  unfold usedTo; rw [seenTo_no h]

def codes : List Int := [1, 1, 1, 1, 2, 2, 3, 3, 3, 3, 4, 5, 6, 7, 7, 7, 8, 9, 10, 0]
theorem codes_at (i : Nat) (h : i < 20) : ∃ z : Int, (ints codes).toArray[i]? = some (.int .i64 z) := by
  have hl : i < codes.length := h
  refine ⟨codes[i], ?_⟩
  rw [List.getElem?_toArray]
  exact ints_at (List.getElem?_eq_getElem hl)
theorem codes_cell (w : World) (i : Nat) : (w.alloc (.cells (ints codes).toArray 3)).cell? ⟨w.heap.size, i, none⟩ = (ints codes).toArray[i]? := (Blk.new (w := w) (t := 3) rfl).cell i
def sizes : List Value := [.int .i64 3, .int .i64 3, .int .i64 8, .int .i64 17]
theorem sizes_at (i : Nat) (h : i < 4) : ∃ z : Int, sizes.toArray[i]? = some (.int .i64 z) ∧ 1 ≤ z ∧ z ≤ 17 := by
  match i, h with
  | 0, _ => exact ⟨3, rfl, by omega, by omega⟩
  | 1, _ => exact ⟨3, rfl, by omega, by omega⟩
  | 2, _ => exact ⟨8, rfl, by omega, by omega⟩
  | 3, _ => exact ⟨17, rfl, by omega, by omega⟩
theorem blk_of_but {S : List Nat} {w : World} {cs : Array Value} {t : TypeId} (_ : But S w (w.alloc (.cells cs t))) : Blk (w.alloc (.cells cs t)) w.heap.size t cs := Blk.new rfl
/-- what Op keeps -/
def RetOp (w : World) (d : Nat) (r : Ending) (w' : World) : Prop := ∃ c a b e : Int, r = .returned (.agg #[.int .i64 c, .int .i64 a, .int .i64 b, .int .i64 e]) ∧ Dk w' d ∧ But [d] w w'

/-- what stands while the used handles are listed -/
structure LpSt (w : World) (d : Nat) (gc : Array Value) (B : Option Addr) (m c : Nat) (us : List Int) (wr : World) : Prop where
  ext : Ext w wr
  kd : Blk wr w.heap.size 28 #[.pointer (some ⟨d, 0, none⟩)]
  kg : Blk wr (w.heap.size + 1) 26 gc
  kr : Blk wr (w.heap.size + 1 + 1) 37 #[.int .i64 0, .int .i64 0, .int .i64 0, .int .i64 0]
  ku : Blk wr (w.heap.size + 1 + 1 + 1) 22 #[.slice B m c]
  own : wr.ownsRow (w.heap.size + 4) 3 1 (.slice B m c) m (ints us)
theorem LpSt.new {w : World} {d : Nat} {gc : Array Value} : LpSt w d gc none 0 0 [] ((((w.alloc (.cells #[.pointer (some ⟨d, 0, none⟩)] 28)).alloc (.cells gc 26)).alloc (.cells #[.int .i64 0, .int .i64 0, .int .i64 0, .int .i64 0] 37)).alloc (.cells #[.slice none 0 0] 22)) :=
  ⟨by (repeat (first | (with_reducible exact Ext.refl _) | assumption | (with_reducible refine Ext.alloc ?_ _) | (with_reducible refine Ext.drew ?_) | (with_reducible refine Ext.drewL ?_) | refine Ext.trans ?_ (by assumption))), Blk.alloc (Blk.alloc (Blk.alloc (Blk.new rfl) _) _) _, Blk.alloc (Blk.alloc (Blk.new (by simp)) _) _, Blk.alloc (Blk.new (by simp)) _, Blk.new (by simp), own_nil _ _ _ _⟩
theorem LpSt.push {w wr w2 : World} {d : Nat} {gc : Array Value} {B A2 : Option Addr} {m c c2 : Nat} {us : List Int} {z : Int} (h : LpSt w d gc B m c us wr)
    (hO : w2.ownsRow (w.heap.size + 4) 3 1 (.slice A2 (m + 1) c2) (m + 1) (ints us ++ [.int .i64 z])) (hg : (wr.alloc (.cells #[.int .i64 z] 3)).grownBy w2 (Value.slice B m c).ownBlock) :
    LpSt w d gc A2 (m + 1) c2 (us ++ [z]) (w2.setCell ⟨w.heap.size + 1 + 1 + 1, 0, none⟩ (.slice A2 (m + 1) c2)) := by
  have hb : ∀ q ∈ (Value.slice B m c).ownBlock.toList, w.heap.size + 4 ≤ q := fun q hq => (World.ownsRow.lt h.own q (by simpa using hq)).1
  have hB := but_grown hg
  have ks : ∀ {k : Nat} {t : TypeId} {cs : Array Value}, Blk wr k t cs → k < w.heap.size + 4 → Blk w2 k t cs := fun hk hl => (hk.alloc _).but hB (fun hm => by have := hb _ hm; omega)
  refine ⟨Ext.setCell (But.ext (Ext.alloc h.ext _) hB (fun q hq => by have := hb q hq; omega)) (by show w.heap.size ≤ w.heap.size + 1 + 1 + 1; omega) _, (ks h.kd (by omega)).far (by show w.heap.size ≠ w.heap.size + 1 + 1 + 1; omega) _, (ks h.kg (by omega)).far (by show w.heap.size + 1 ≠ w.heap.size + 1 + 1 + 1; omega) _,
    (ks h.kr (by omega)).far (by show w.heap.size + 1 + 1 ≠ w.heap.size + 1 + 1 + 1; omega) _, by simpa using (ks h.ku (by omega)).set_ 0 (.slice A2 (m + 1) c2), ?_⟩
  have : ints (us ++ [z]) = ints us ++ [.int .i64 z] := by simp [ints]
  rw [this]
  exact own_below hO (by show w.heap.size + 1 + 1 + 1 < w.heap.size + 4; omega) _

theorem dk_ne {w : World} {b d : Nat} {t : TypeId} {cs : Array Value} (h : Dk w d) (k : Blk w b t cs) (ht : t ≠ 59) : b ≠ d := by
  obtain ⟨_, _, _, _, _, h1, _⟩ := h
  exact k.ne_ h1 ht
theorem nin_of {b d : Nat} (h : b ≠ d) : b ∉ [d] := by simpa using h
/-- what stands behind the choice of the code -/
structure OpSt (w : World) (d q : Nat) (U : Option Addr) (m c : Nat) (us : List Int) (w' : World) : Prop where
  big : But [d] w w'
  dk : Dk w' d
  kd : Blk w' w.heap.size 28 #[.pointer (some ⟨d, 0, none⟩)]
  ku : Blk w' (w.heap.size + 1 + 1 + 1) 22 #[.slice U m c]
  rd : Rd w' U m 1 (ints us)
  kr : Blk w' (w.heap.size + 1 + 1) 37 #[.int .i64 0, .int .i64 0, .int .i64 0, .int .i64 0]
  kq : ∃ a b e f : Int, Blk w' q 37 #[.int .i64 a, .int .i64 b, .int .i64 e, .int .i64 f]
  hq : w.heap.size + 4 ≤ q
  hU : 0 < m → ∀ ad, U = some ad → w.heap.size + 4 ≤ ad.block ∧ ad.block ≠ q
  hd : d < w.heap.size
section
variable {w w1 w2 : World} {d q m c : Nat} {U : Option Addr} {us : List Int}
theorem OpSt.ext (h : OpSt w d q U m c us w1) (he : Ext w1 w2) : OpSt w d q U m c us w2 :=
  ⟨h.big.trans (he.but _), h.dk.ext he, h.kd.ext he, h.ku.ext he, h.rd.ext he, h.kr.ext he, by obtain ⟨a, b, e, f, k⟩ := h.kq; exact ⟨a, b, e, f, k.ext he⟩, h.hq, h.hU, h.hd⟩
theorem OpSt.next (h : OpSt w d q U m c us w1) (hk : Dk w2 d) (he : But [d] w1 w2) : OpSt w d q U m c us w2 := by
  have hd := h.hd
  have hq := h.hq
  have ne : ∀ {x : Nat}, w.heap.size ≤ x → x ∉ [d] := fun hx hm => by have := List.mem_singleton.1 hm; omega
  exact ⟨h.big.trans he, hk, h.kd.but he (ne (by omega)), h.ku.but he (ne (by omega)), rd_but' h.rd he (fun h0 ad ha => by have := (h.hU h0 ad ha).1; omega), h.kr.but he (ne (by omega)),
    by obtain ⟨a, b, e, f, k⟩ := h.kq; exact ⟨a, b, e, f, k.but he (ne (by omega))⟩, h.hq, h.hU, h.hd⟩
theorem OpSt.store (h : OpSt w d q U m c us w1) (i : Nat) (z : Int) : OpSt w d q U m c us (w1.setCell ⟨q, i, none⟩ (.int .i64 z)) := by
  have hd := h.hd
  have hq := h.hq
  have hl := h.big.size
  refine ⟨But.fresh h.big (by show w.heap.size ≤ q; omega) _, h.dk.but (But.setCell (S := [q]) (But.refl _ _) (by simp) _) (fun x hx => by have := List.mem_singleton.1 hx; omega), h.kd.far (by show w.heap.size ≠ q; omega) _, h.ku.far (by show w.heap.size + 1 + 1 + 1 ≠ q; omega) _,
    rd_but' h.rd (But.setCell (S := [q]) (But.refl _ _) (by simp) _) (fun h0 ad ha => (h.hU h0 ad ha).2), h.kr.far (by show w.heap.size + 1 + 1 ≠ q; omega) _, ?_, h.hq, h.hU, h.hd⟩
  obtain ⟨a, b, e, f, k⟩ := h.kq
  have k2 := k.set_ i (.int .i64 z)
  match i with
  | 0 => exact ⟨z, b, e, f, by simpa using k2⟩
  | 1 => exact ⟨a, z, e, f, by simpa using k2⟩
  | 2 => exact ⟨a, b, z, f, by simpa using k2⟩
  | 3 => exact ⟨a, b, e, z, by simpa using k2⟩
  | i + 4 => exact ⟨a, b, e, f, by simpa using k2⟩
theorem OpSt.fin (h : OpSt w d q U m c us w1) (x y z u : Value) : Dk ((((w1.setCell ⟨w.heap.size + 1 + 1, 0, none⟩ x).setCell ⟨w.heap.size + 1 + 1, 1, none⟩ y).setCell ⟨w.heap.size + 1 + 1, 2, none⟩ z).setCell ⟨w.heap.size + 1 + 1, 3, none⟩ u) d ∧
    But [d] w ((((w1.setCell ⟨w.heap.size + 1 + 1, 0, none⟩ x).setCell ⟨w.heap.size + 1 + 1, 1, none⟩ y).setCell ⟨w.heap.size + 1 + 1, 2, none⟩ z).setCell ⟨w.heap.size + 1 + 1, 3, none⟩ u) ∧
    (∀ i, ((((w1.setCell ⟨w.heap.size + 1 + 1, 0, none⟩ x).setCell ⟨w.heap.size + 1 + 1, 1, none⟩ y).setCell ⟨w.heap.size + 1 + 1, 2, none⟩ z).setCell ⟨w.heap.size + 1 + 1, 3, none⟩ u).cell? ⟨w.heap.size + 1 + 1, i, none⟩ = #[x, y, z, u][i]?) := by
  have hd := h.hd
  have k := (((h.kr.set_ 0 x).set_ 1 y).set_ 2 z).set_ 3 u
  have hb : But [w.heap.size + 1 + 1] w1 ((((w1.setCell ⟨w.heap.size + 1 + 1, 0, none⟩ x).setCell ⟨w.heap.size + 1 + 1, 1, none⟩ y).setCell ⟨w.heap.size + 1 + 1, 2, none⟩ z).setCell ⟨w.heap.size + 1 + 1, 3, none⟩ u) := by (repeat (first | (with_reducible exact But.refl _ _) | assumption | (with_reducible refine But.drew ?_) | (with_reducible refine But.drewL ?_) | (with_reducible refine But.setCell ?_ ?_ _; rotate_left; (focus (simp; done))) | (with_reducible refine But.setCellL ?_ ?_; rotate_left; (focus (simp; done))) | (with_reducible refine But.alloc2 ?_ ?_; rotate_left; (focus (simp [World.setCell]; done))) | (with_reducible refine But.allocL ?_ ?_ ?_; rotate_left; (focus (simp; done)); (focus (simp; done))) | (with_reducible refine But.alloc ?_ _)))
  refine ⟨h.dk.but hb (fun a ha => by have := List.mem_singleton.1 ha; omega), ?_, fun i => by rw [k.cell]; rfl⟩
  exact But.fresh (But.fresh (But.fresh (But.fresh h.big (by show w.heap.size ≤ w.heap.size + 1 + 1; omega) _) (by show w.heap.size ≤ w.heap.size + 1 + 1; omega) _) (by show w.heap.size ≤ w.heap.size + 1 + 1; omega) _) (by show w.heap.size ≤ w.heap.size + 1 + 1; omega) _
/-- from one moment of a region to the next -/
def OpR (w : World) (d q : Nat) (U : Option Addr) (m c : Nat) (us : List Int) (w1 w2 : World) : Prop := But [d, q] w1 w2 ∧ (OpSt w d q U m c us w1 → OpSt w d q U m c us w2)
theorem OpR.refl (w1 : World) : OpR w d q U m c us w1 w1 := ⟨But.refl _ _, id⟩
theorem OpR.trans (w1 w2 w3 : World) (h : OpR w d q U m c us w1 w2) (k : OpR w d q U m c us w2 w3) : OpR w d q U m c us w1 w3 := ⟨h.1.trans k.1, fun x => k.2 (h.2 x)⟩
theorem OpR.ext (he : Ext w1 w2) : OpR w d q U m c us w1 w2 := ⟨he.but _, fun h => h.ext he⟩
theorem but_more2 {S S' : List Nat} {w w' : World} (h : But S w w') (hs : ∀ q ∈ S, q ∈ S') : But S' w w' := ⟨h.os, h.tape, h.output, h.size, fun k hk hn => h.block k hk (fun hm => hn (hs k hm))⟩
theorem OpR.next (hk : Dk w2 d) (he : But [d] w1 w2) : OpR w d q U m c us w1 w2 := ⟨but_more2 he (fun x hx => by simp at hx; simp [hx]), fun h => h.next hk he⟩
theorem OpR.store (i : Nat) (z : Int) : OpR w d q U m c us w1 (w1.setCell ⟨q, i, none⟩ (.int .i64 z)) := ⟨But.setCell (But.refl _ _) (by simp) _, fun h => h.store i z⟩
end
set_option maxRecDepth 100000 in
set_option maxHeartbeats 4000000 in
theorem op20_any (d : Nat) (v : Value) (g : Gr) (w : World) (hD : Dk w d) (hg : GRd w v g) (hlu : g.us.length ≤ 1000) : Calls Try.prog 20 #[.pointer (some ⟨d, 0, none⟩), v] w (RetOp w d) := by
  obtain ⟨A0, a0, B0, b0, C0, c0, rfl⟩ := hg.sl
  have hdl := hD.lt
  go_enter Try.func20, Try.ntmps20
  go_upto_region 2 with fail
  have hL := LpSt.new (w := w) (d := d) (gc := #[.slice A0 g.ns.length a0, .slice B0 g.us.length b0, .slice C0 g.rs.length c0])
  generalize (((w.alloc (.cells #[.pointer (some ⟨d, 0, none⟩)] 28)).alloc (.cells #[.slice A0 g.ns.length a0, .slice B0 g.us.length b0, .slice C0 g.rs.length c0] 26)).alloc (.cells #[.int .i64 0, .int .i64 0, .int .i64 0, .int .i64 0] 37)).alloc (.cells #[.slice none 0 0] 22) = W at hL ⊢
  obtain ⟨hU0, _⟩ := hg.rows
  have m1 := hL.kg.cell
  go_wp2_with fail
  go_loopw [13] (fun i wr => ∃ (k : Nat) (B : Option Addr) (dd : Nat), k ≤ g.us.length ∧ i = .int .i64 k ∧ LpSt w d #[.slice A0 g.ns.length a0, .slice B0 g.us.length b0, .slice C0 g.rs.length c0] B (usedTo g.us k).length dd (usedTo g.us k) wr) (fun i _ => g.us.length - (intOf i).toNat)
  case atStart => exact ⟨0, none, 0, by omega, rfl, hL⟩
  case round =>
    clear hL m1
    obtain ⟨k, B, dd, hk, rfl, hL⟩ := hrel
    have hll := usedTo_len g.us k
    have m3 := hL.ku.cell
    have f3 := hL.ku.froz
    have l3 := hL.ku.lt
    by_cases hlt : k < g.us.length
    · have hdec : decide ((k : Int) < g.us.length) = true := by simp; omega
      have hdec' : decide (k < g.us.length) = true := by simp; omega
      have hkb : (k : Int) < g.us.length := by omega
      obtain ⟨u, hu⟩ : ∃ u, g.us[k]? = some u := ⟨_, List.getElem?_eq_getElem hlt⟩
      obtain ⟨bb, ob, rfl, hcb⟩ := rd_vb (hU0.ext hL.ext) hu
      have Hu := Lib.hid hu
      have lbb := cell_lt hcb
      clear hu
      cases u
      · have hs := usedTo_no Hu.out
        have Hs := Lib.hid hs
        clear hs m3 f3
        go_wp2
        go_roundw
        case rel => exact ⟨k + 1, B, dd, by omega, by go_num, by rw [Hs.out]; exact hL⟩
        case measure => simp [intOf]; omega
      · have hs := usedTo_yes Hu.out
        have Hs := Lib.hid hs
        clear hs
        generalize hzl : usedTo g.us k = zl at *
        have hub : w.heap.size + 1 + 1 + 1 ∉ (Value.slice B zl.length dd).ownBlock.toList := fun hm => by have := (World.ownsRow.lt hL.own _ (by simpa using hm)).1; omega
        have hkb2 : (k : Int) ≤ 1000 := by omega
        clear hzl
        go_wp2_with (first | (at_builtin; refine wpList_append rfl Try.el22 _ _ rfl (w.heap.size + 4) _ _ _ rfl (own_alloc hL.own _) _ 1 1 _ rfl (rd_one _ _ _) (by simp [Value.oneCell']) (by omega) (by omega) (by (first | omega | (simp; done) | (simp; omega))) ?_; intro A2 c2 w2 hO2 hg2 hat2; have g2 : (wr.alloc (.cells #[.int .i64 ((k : Int) + 1)] 3)).grownBy w2 (Value.slice B zl.length dd).ownBlock := hg2; have hL2 := hL.push hO2 g2; have cu2 := (Blk.but (hL.ku.alloc (.cells #[.int .i64 ((k : Int) + 1)] 3)) (but_grown g2) hub).cell; have fu2 := (Blk.but (hL.ku.alloc (.cells #[.int .i64 ((k : Int) + 1)] 3)) (but_grown g2) hub).froz))
        have hl2 : (zl ++ [(k : Int) + 1]).length = zl.length + 1 := by simp
        have Hl2 := Lib.hid hl2
        clear hl2
        go_roundw
        case rel => exact ⟨k + 1, A2, c2, by omega, by go_num, by rw [Hs.out, Hl2.out]; exact hL2⟩
        case measure => simp [intOf]; omega
    · have hdec : decide ((k : Int) < g.us.length) = false := by simp; omega
      have hdec' : decide (k < g.us.length) = false := by simp; omega
      have hkn : k = g.us.length := by omega
      subst hkn
      obtain ⟨zl, hzl⟩ : ∃ zl, usedTo g.us g.us.length = zl := ⟨_, rfl⟩
      rw [hzl] at hL m3 hll
      clear hzl hU0
      have m0 := hL.kd.cell
      have l0 := hL.kd.lt
      have hDk := hD.ext hL.ext
      go_upto_region 10 with (first | (go_at_call 26; refine (next_any d _ _ (hDk.ext (by (repeat (first | (with_reducible exact Ext.refl _) | assumption | (with_reducible refine Ext.alloc ?_ _) | (with_reducible refine Ext.drew ?_) | (with_reducible refine Ext.drewL ?_) | refine Ext.trans ?_ (by assumption))))) (by omega) (by omega)).mono ?_; rintro e w1 ⟨x, rfl, hx0, hx1, hDk1, hB1⟩; (obtain ⟨i, rfl⟩ : ∃ i : Nat, x = i := ⟨x.toNat, by omega⟩); have hi20 : i < 20 := (by omega); have hi20' : (i : Int) < 20 := (by omega); (obtain ⟨z, hz⟩ := codes_at i hi20); have hbw : w.heap.size < wr.heap.size := (by omega); have hcz := cell_but (S := [d]) hB1 (b := wr.heap.size) (o := i) (by simp; omega) ((codes_cell wr i).trans hz)))
      have hS : OpSt w d w1.heap.size B zl.length dd zl (w1.alloc (.cells #[.int .i64 z, .int .i64 0, .int .i64 0, .int .i64 0] 37)) := by
        have hz1 := hB1.size
        simp at hz1
        have ne : ∀ {x : Nat}, w.heap.size ≤ x → x ∉ [d] := fun hx hm => by have := List.mem_singleton.1 hm; omega
        have hE1 : Ext wr (wr.alloc (.cells (ints codes).toArray 3)) := Ext.alloc (Ext.refl _) _
        have hB2 : But [d] (wr.alloc (.cells (ints codes).toArray 3)) w1 := hB1
        have hB3 := hB2.alloc (.cells #[.int .i64 z, .int .i64 0, .int .i64 0, .int .i64 0] 37)
        have hl3 := hL.kr.lt
        have hrd : Rd wr B zl.length 1 (ints zl) := Rd.of_own hL.own
        have hUb : 0 < zl.length → ∀ ad, B = some ad → w.heap.size + 4 ≤ ad.block ∧ ad.block < wr.heap.size := fun h0 ad ha => by
          obtain ⟨gg, he, h1, h2⟩ := own_form hL.own h0
          rw [ha] at he
          injection he with he
          subst he
          exact ⟨h1, h2⟩
        exact ⟨(hL.ext.but _).trans ((hE1.but _).trans hB3), hDk1.ext (Ext.alloc (Ext.refl _) _), (hL.kd.ext hE1).but hB3 (ne (by omega)), (hL.ku.ext hE1).but hB3 (ne (by omega)), rd_but' (hrd.ext hE1) hB3 (fun h0 ad ha => by have := (hUb h0 ad ha).1; omega), (hL.kr.ext hE1).but hB3 (ne (by omega)),
          ⟨z, 0, 0, 0, Blk.new rfl⟩, by omega, fun h0 ad ha => ⟨(hUb h0 ad ha).1, by have := (hUb h0 ad ha).2; omega⟩, hdl⟩
      have kq : Blk (w1.alloc (.cells #[.int .i64 z, .int .i64 0, .int .i64 0, .int .i64 0] 37)) w1.heap.size 37 #[.int .i64 z, .int .i64 0, .int .i64 0, .int .i64 0] := Blk.new rfl
      generalize w1.alloc (.cells #[.int .i64 z, .int .i64 0, .int .i64 0, .int .i64 0] 37) = W9 at hS kq ⊢
      generalize w1.heap.size = q at hS kq ⊢
      clear hcz hbw hB1 hDk1 hDk m0 l0 hL m3 f3 l3 hz hx0 hx1
      have n0 : w.heap.size ≠ d := by omega
      have n1 : w.heap.size ≠ q := by have := hS.hq; omega
      have n2 : w.heap.size + 1 + 1 + 1 ≠ q := by have := hS.hq; omega
      have n3 : w.heap.size + 1 + 1 + 1 ≠ d := by omega
      have n4 : q ≠ d := by have := hS.hq; omega
      have n5 : d ≠ q := by omega
      have n6 : d < q := by have := hS.hq; omega
      have m0 := hS.kd.cell
      have m3 := hS.ku.cell
      have mq := kq.cell
      have fq := kq.froz
      by_cases hm : 20 < zl.length
      · have hm1 : decide ((20 : Int) < zl.length) = true := by simp; omega
        have hm2 : decide (20 < zl.length) = true := by simp; omega
        by_cases c1 : z = 1
        · subst c1
          go_upto_region 12 with fail
          replace hS := hS.store 0 7
          have one : True := trivial
          (obtain ⟨_, _, _, _, kq'⟩ := hS.kq)
          have m3' := hS.ku.cell
          have m0' := hS.kd.cell
          go_upto_region 27 with (first | (go_at_call 31; refine (h31_any w.heap.size (w.heap.size + 1 + 1 + 1) d zl.length dd B zl _ hS.ku hS.kd hS.dk hS.rd (fun h0 ad ha => by have := (hS.hU h0 ad ha).1; omega) (by omega) (by omega) (by omega)).mono ?_; rintro e w1 ⟨x1, rfl, hDk, hB⟩; replace hS := hS.next hDk hB; (obtain ⟨_, _, _, _, kq'⟩ := hS.kq); have cq := kq'.cell; have fq := kq'.froz; (first | (clear one; obtain ⟨xa, rfl⟩ : ∃ y, y = x1 := ⟨_, rfl⟩) | (obtain ⟨xb, rfl⟩ : ∃ y, y = x1 := ⟨_, rfl⟩))))
          replace hS := hS.store 1 xa
          obtain ⟨f0, f1, f2, f3, kf⟩ := hS.kq
          have cf := kf.cell
          have cr := hS.kr.cell
          have fr := hS.kr.froz
          have hq3 := hS.hq
          have nqr : q ≠ w.heap.size + 1 + 1 := by omega
          have nrq : w.heap.size + 1 + 1 ≠ q := by omega
          obtain ⟨e1, e2, e3⟩ := hS.fin (.int .i64 f0) (.int .i64 f1) (.int .i64 f2) (.int .i64 f3)
          go_wp2
          exact bodyPost_ret (v := .agg #[.int .i64 f0, .int .i64 f1, .int .i64 f2, .int .i64 f3]) (by simp [results, Try.results20, go_sem, e3]) rfl ⟨f0, f1, f2, f3, rfl, e1, e2⟩
        have z1 : (z == 1) = false := by simpa using c1
        go_upto_region 12 with fail
        by_cases c2 : z = 2
        · subst c2
          go_upto_region 17 with fail
          replace hS := hS.ext (Ext.drew (Ext.refl _))
          refine wp_region_treeB [d, q] (.take 0 (.take 2 (.alt 1 (.take 4 (.alt 3 (.alt 5 (.take 6 (.alt 7 .done .none)) .none) .none)) .none))) Try.mixed (by kernel_rfl) ?_
          intro hx hy
          first
            | (refine wpT_takeB hx (v := ?_) (List.getElem?_toArray.trans (by rfl)) (by rfl) (fun _ hc => ?_) ?_
               rotate_left
               focus (go_simp; (try go_ints); exact rfl)
               simp only [Act.put, List.setIfInBounds_toArray, List.set_cons_zero, List.set_cons_succ])
            | (refine wpT_skip (List.getElem?_toArray.trans (by rfl)) (by rfl) ?_; simp only [Act.put, List.setIfInBounds_toArray, List.set_cons_zero, List.set_cons_succ])
          first
            | (refine wpT_takeB hx (v := ?_) (List.getElem?_toArray.trans (by rfl)) (by rfl) (fun _ hc => ?_) ?_
               rotate_left
               focus (go_simp; (try go_ints); exact rfl)
               simp only [Act.put, List.setIfInBounds_toArray, List.set_cons_zero, List.set_cons_succ])
            | (refine wpT_skip (List.getElem?_toArray.trans (by rfl)) (by rfl) ?_; simp only [Act.put, List.setIfInBounds_toArray, List.set_cons_zero, List.set_cons_succ])
          refine wpT_call (List.getElem?_toArray.trans (by rfl)) (by rfl) (fun K hK => ?_) ?_
          · skip
            go_simp
            go_at_call 31
            refine (h31_any w.heap.size (w.heap.size + 1 + 1 + 1) d zl.length dd B zl _ hS.ku hS.kd hS.dk hS.rd (fun h0 ad ha => by have := (hS.hU h0 ad ha).1; omega) (by omega) (by omega) (by omega)).mono ?_
            rintro e w1 ⟨x1, rfl, hDk, hB⟩; replace hS := hS.next hDk hB
            refine hK _ _ (But.more hB (by simp)) ?_
            clear hK
            intro hr
            replace hx := hx.trans hr
            clear hr
            try simp only [Act.put, List.setIfInBounds_toArray, List.set_cons_zero, List.set_cons_succ]
            first
              | (refine wpT_takeB hx (v := ?_) (List.getElem?_toArray.trans (by rfl)) (by rfl) (fun _ hc => ?_) ?_
                 rotate_left
                 focus (go_simp; (try go_ints); exact rfl)
                 simp only [Act.put, List.setIfInBounds_toArray, List.set_cons_zero, List.set_cons_succ])
              | (refine wpT_skip (List.getElem?_toArray.trans (by rfl)) (by rfl) ?_; simp only [Act.put, List.setIfInBounds_toArray, List.set_cons_zero, List.set_cons_succ])
            refine wpT_call (List.getElem?_toArray.trans (by rfl)) (by rfl) (fun K hK => ?_) ?_
            · skip
              go_simp
              go_at_call 26
              refine (next_any d _ _ hS.dk (by omega) (by omega)).mono ?_
              rintro e w1 ⟨x2, rfl, hy0, hy1, hDk, hB⟩; replace hS := hS.next hDk hB
              refine hK _ _ (But.more hB (by simp)) ?_
              clear hK
              intro hr
              replace hx := hx.trans hr
              clear hr
              try simp only [Act.put, List.setIfInBounds_toArray, List.set_cons_zero, List.set_cons_succ]
              refine wpT_store (List.getElem?_toArray.trans (by rfl)) rfl (by rfl) (fun K hK => ?_) ?_
              · skip
                have hcy := Ext.cell hy
                have hfy := Ext.froz hy
                (obtain ⟨_, _, _, _, kq'⟩ := hS.kq); have cq := kq'.cell; have fq := kq'.froz
                go_simp
                refine hK _ ?_ ?_
                focus ((repeat (first | (with_reducible exact But.refl _ _) | assumption | (with_reducible refine But.drew ?_) | (with_reducible refine But.drewL ?_) | (with_reducible refine But.setCell ?_ ?_ _; rotate_left; (focus (simp; done))) | (with_reducible refine But.setCellL ?_ ?_; rotate_left; (focus (simp; done))) | (with_reducible refine But.alloc2 ?_ ?_; rotate_left; (focus (simp [World.setCell]; done))) | (with_reducible refine But.allocL ?_ ?_ ?_; rotate_left; (focus (simp; done)); (focus (simp; done))) | (with_reducible refine But.alloc ?_ _))); done)
                clear hK
                intro hr
                replace hS := hS.store 1 x1
                replace hx := hx.trans hr
                clear hr
                try simp only [Act.put, List.setIfInBounds_toArray, List.set_cons_zero, List.set_cons_succ]
                first
                  | (refine wpT_takeB hx (v := ?_) (List.getElem?_toArray.trans (by rfl)) (by rfl) (fun _ hc => ?_) ?_
                     rotate_left
                     focus (go_simp; (try go_ints); exact rfl)
                     simp only [Act.put, List.setIfInBounds_toArray, List.set_cons_zero, List.set_cons_succ])
                  | (refine wpT_skip (List.getElem?_toArray.trans (by rfl)) (by rfl) ?_; simp only [Act.put, List.setIfInBounds_toArray, List.set_cons_zero, List.set_cons_succ])
                refine wpT_store (List.getElem?_toArray.trans (by rfl)) rfl (by rfl) (fun K hK => ?_) ?_
                · skip
                  have hcy := Ext.cell hy
                  have hfy := Ext.froz hy
                  (obtain ⟨_, _, _, _, kq'⟩ := hS.kq); have cq := kq'.cell; have fq := kq'.froz
                  go_simp
                  refine hK _ ?_ ?_
                  focus ((repeat (first | (with_reducible exact But.refl _ _) | assumption | (with_reducible refine But.drew ?_) | (with_reducible refine But.drewL ?_) | (with_reducible refine But.setCell ?_ ?_ _; rotate_left; (focus (simp; done))) | (with_reducible refine But.setCellL ?_ ?_; rotate_left; (focus (simp; done))) | (with_reducible refine But.alloc2 ?_ ?_; rotate_left; (focus (simp [World.setCell]; done))) | (with_reducible refine But.allocL ?_ ?_ ?_; rotate_left; (focus (simp; done)); (focus (simp; done))) | (with_reducible refine But.alloc ?_ _))); done)
                  clear hK
                  intro hr
                  replace hS := hS.store 2 x2
                  replace hx := hx.trans hr
                  clear hr
                  try simp only [Act.put, List.setIfInBounds_toArray, List.set_cons_zero, List.set_cons_succ]
                  refine wpT_done ?_
                  obtain ⟨f0, f1, f2, f3, kf⟩ := hS.kq
                  have cf := kf.cell
                  have cr := hS.kr.cell
                  have fr := hS.kr.froz
                  have hq3 := hS.hq
                  have nqr : q ≠ w.heap.size + 1 + 1 := by omega
                  have nrq : w.heap.size + 1 + 1 ≠ q := by omega
                  obtain ⟨e1, e2, e3⟩ := hS.fin (.int .i64 f0) (.int .i64 f1) (.int .i64 f2) (.int .i64 f3)
                  go_wp2
                  exact bodyPost_ret (v := .agg #[.int .i64 f0, .int .i64 f1, .int .i64 f2, .int .i64 f3]) (by simp [results, Try.results20, go_sem, e3]) rfl ⟨f0, f1, f2, f3, rfl, e1, e2⟩
                exact wpT_none
              exact wpT_none
            exact wpT_none
          exact wpT_none
        have z2 : (z == 2) = false := by simpa using c2
        by_cases c4 : z = 4
        · subst c4
          go_upto_region 17 with fail
          replace hS := hS.ext (Ext.drew (Ext.refl _))
          refine wp_region_treeB [d, q] (.take 0 (.take 2 (.alt 1 (.take 4 (.alt 3 (.alt 5 (.take 6 (.alt 7 .done .none)) .none) .none)) .none))) Try.mixed (by kernel_rfl) ?_
          intro hx hy
          first
            | (refine wpT_takeB hx (v := ?_) (List.getElem?_toArray.trans (by rfl)) (by rfl) (fun _ hc => ?_) ?_
               rotate_left
               focus (go_simp; (try go_ints); exact rfl)
               simp only [Act.put, List.setIfInBounds_toArray, List.set_cons_zero, List.set_cons_succ])
            | (refine wpT_skip (List.getElem?_toArray.trans (by rfl)) (by rfl) ?_; simp only [Act.put, List.setIfInBounds_toArray, List.set_cons_zero, List.set_cons_succ])
          first
            | (refine wpT_takeB hx (v := ?_) (List.getElem?_toArray.trans (by rfl)) (by rfl) (fun _ hc => ?_) ?_
               rotate_left
               focus (go_simp; (try go_ints); exact rfl)
               simp only [Act.put, List.setIfInBounds_toArray, List.set_cons_zero, List.set_cons_succ])
            | (refine wpT_skip (List.getElem?_toArray.trans (by rfl)) (by rfl) ?_; simp only [Act.put, List.setIfInBounds_toArray, List.set_cons_zero, List.set_cons_succ])
          refine wpT_call (List.getElem?_toArray.trans (by rfl)) (by rfl) (fun K hK => ?_) ?_
          · skip
            go_simp
            go_at_call 31
            refine (h31_any w.heap.size (w.heap.size + 1 + 1 + 1) d zl.length dd B zl _ hS.ku hS.kd hS.dk hS.rd (fun h0 ad ha => by have := (hS.hU h0 ad ha).1; omega) (by omega) (by omega) (by omega)).mono ?_
            rintro e w1 ⟨x1, rfl, hDk, hB⟩; replace hS := hS.next hDk hB
            refine hK _ _ (But.more hB (by simp)) ?_
            clear hK
            intro hr
            replace hx := hx.trans hr
            clear hr
            try simp only [Act.put, List.setIfInBounds_toArray, List.set_cons_zero, List.set_cons_succ]
            first
              | (refine wpT_takeB hx (v := ?_) (List.getElem?_toArray.trans (by rfl)) (by rfl) (fun _ hc => ?_) ?_
                 rotate_left
                 focus (go_simp; (try go_ints); exact rfl)
                 simp only [Act.put, List.setIfInBounds_toArray, List.set_cons_zero, List.set_cons_succ])
              | (refine wpT_skip (List.getElem?_toArray.trans (by rfl)) (by rfl) ?_; simp only [Act.put, List.setIfInBounds_toArray, List.set_cons_zero, List.set_cons_succ])
            refine wpT_call (List.getElem?_toArray.trans (by rfl)) (by rfl) (fun K hK => ?_) ?_
            · skip
              go_simp
              go_at_call 26
              refine (next_any d _ _ hS.dk (by omega) (by omega)).mono ?_
              rintro e w1 ⟨x2, rfl, hy0, hy1, hDk, hB⟩; replace hS := hS.next hDk hB
              refine hK _ _ (But.more hB (by simp)) ?_
              clear hK
              intro hr
              replace hx := hx.trans hr
              clear hr
              try simp only [Act.put, List.setIfInBounds_toArray, List.set_cons_zero, List.set_cons_succ]
              refine wpT_store (List.getElem?_toArray.trans (by rfl)) rfl (by rfl) (fun K hK => ?_) ?_
              · skip
                have hcy := Ext.cell hy
                have hfy := Ext.froz hy
                (obtain ⟨_, _, _, _, kq'⟩ := hS.kq); have cq := kq'.cell; have fq := kq'.froz
                go_simp
                refine hK _ ?_ ?_
                focus ((repeat (first | (with_reducible exact But.refl _ _) | assumption | (with_reducible refine But.drew ?_) | (with_reducible refine But.drewL ?_) | (with_reducible refine But.setCell ?_ ?_ _; rotate_left; (focus (simp; done))) | (with_reducible refine But.setCellL ?_ ?_; rotate_left; (focus (simp; done))) | (with_reducible refine But.alloc2 ?_ ?_; rotate_left; (focus (simp [World.setCell]; done))) | (with_reducible refine But.allocL ?_ ?_ ?_; rotate_left; (focus (simp; done)); (focus (simp; done))) | (with_reducible refine But.alloc ?_ _))); done)
                clear hK
                intro hr
                replace hS := hS.store 1 x1
                replace hx := hx.trans hr
                clear hr
                try simp only [Act.put, List.setIfInBounds_toArray, List.set_cons_zero, List.set_cons_succ]
                first
                  | (refine wpT_takeB hx (v := ?_) (List.getElem?_toArray.trans (by rfl)) (by rfl) (fun _ hc => ?_) ?_
                     rotate_left
                     focus (go_simp; (try go_ints); exact rfl)
                     simp only [Act.put, List.setIfInBounds_toArray, List.set_cons_zero, List.set_cons_succ])
                  | (refine wpT_skip (List.getElem?_toArray.trans (by rfl)) (by rfl) ?_; simp only [Act.put, List.setIfInBounds_toArray, List.set_cons_zero, List.set_cons_succ])
                refine wpT_store (List.getElem?_toArray.trans (by rfl)) rfl (by rfl) (fun K hK => ?_) ?_
                · skip
                  have hcy := Ext.cell hy
                  have hfy := Ext.froz hy
                  (obtain ⟨_, _, _, _, kq'⟩ := hS.kq); have cq := kq'.cell; have fq := kq'.froz
                  go_simp
                  refine hK _ ?_ ?_
                  focus ((repeat (first | (with_reducible exact But.refl _ _) | assumption | (with_reducible refine But.drew ?_) | (with_reducible refine But.drewL ?_) | (with_reducible refine But.setCell ?_ ?_ _; rotate_left; (focus (simp; done))) | (with_reducible refine But.setCellL ?_ ?_; rotate_left; (focus (simp; done))) | (with_reducible refine But.alloc2 ?_ ?_; rotate_left; (focus (simp [World.setCell]; done))) | (with_reducible refine But.allocL ?_ ?_ ?_; rotate_left; (focus (simp; done)); (focus (simp; done))) | (with_reducible refine But.alloc ?_ _))); done)
                  clear hK
                  intro hr
                  replace hS := hS.store 2 x2
                  replace hx := hx.trans hr
                  clear hr
                  try simp only [Act.put, List.setIfInBounds_toArray, List.set_cons_zero, List.set_cons_succ]
                  refine wpT_done ?_
                  obtain ⟨f0, f1, f2, f3, kf⟩ := hS.kq
                  have cf := kf.cell
                  have cr := hS.kr.cell
                  have fr := hS.kr.froz
                  have hq3 := hS.hq
                  have nqr : q ≠ w.heap.size + 1 + 1 := by omega
                  have nrq : w.heap.size + 1 + 1 ≠ q := by omega
                  obtain ⟨e1, e2, e3⟩ := hS.fin (.int .i64 f0) (.int .i64 f1) (.int .i64 f2) (.int .i64 f3)
                  go_wp2
                  exact bodyPost_ret (v := .agg #[.int .i64 f0, .int .i64 f1, .int .i64 f2, .int .i64 f3]) (by simp [results, Try.results20, go_sem, e3]) rfl ⟨f0, f1, f2, f3, rfl, e1, e2⟩
                exact wpT_none
              exact wpT_none
            exact wpT_none
          exact wpT_none
        have z4 : (z == 4) = false := by simpa using c4
        by_cases c3 : z = 3
        · subst c3
          go_upto_region 19 with fail
          replace hS := hS.ext (Ext.drew (Ext.refl _))
          refine wp_region_treeB [d, q] (.take 0 (.take 2 (.take 4 (.alt 1 (.take 6 (.alt 3 (.alt 5 (.alt 7 (.take 8 (.alt 9 (.take 10 (.alt 11 .done .none)) .none)) .none) .none) .none)) .none)))) Try.mixed (by kernel_rfl) ?_
          intro hx hy
          first
            | (refine wpT_takeB hx (v := ?_) (List.getElem?_toArray.trans (by rfl)) (by rfl) (fun _ hc => ?_) ?_
               rotate_left
               focus (go_simp; (try go_ints); exact rfl)
               simp only [Act.put, List.setIfInBounds_toArray, List.set_cons_zero, List.set_cons_succ])
            | (refine wpT_skip (List.getElem?_toArray.trans (by rfl)) (by rfl) ?_; simp only [Act.put, List.setIfInBounds_toArray, List.set_cons_zero, List.set_cons_succ])
          first
            | (refine wpT_takeB hx (v := ?_) (List.getElem?_toArray.trans (by rfl)) (by rfl) (fun _ hc => ?_) ?_
               rotate_left
               focus (go_simp; (try go_ints); exact rfl)
               simp only [Act.put, List.setIfInBounds_toArray, List.set_cons_zero, List.set_cons_succ])
            | (refine wpT_skip (List.getElem?_toArray.trans (by rfl)) (by rfl) ?_; simp only [Act.put, List.setIfInBounds_toArray, List.set_cons_zero, List.set_cons_succ])
          first
            | (refine wpT_takeB hx (v := ?_) (List.getElem?_toArray.trans (by rfl)) (by rfl) (fun _ hc => ?_) ?_
               rotate_left
               focus (go_simp; (try go_ints); exact rfl)
               simp only [Act.put, List.setIfInBounds_toArray, List.set_cons_zero, List.set_cons_succ])
            | (refine wpT_skip (List.getElem?_toArray.trans (by rfl)) (by rfl) ?_; simp only [Act.put, List.setIfInBounds_toArray, List.set_cons_zero, List.set_cons_succ])
          refine wpT_call (List.getElem?_toArray.trans (by rfl)) (by rfl) (fun K hK => ?_) ?_
          · skip
            go_simp
            go_at_call 31
            refine (h31_any w.heap.size (w.heap.size + 1 + 1 + 1) d zl.length dd B zl _ hS.ku hS.kd hS.dk hS.rd (fun h0 ad ha => by have := (hS.hU h0 ad ha).1; omega) (by omega) (by omega) (by omega)).mono ?_
            rintro e w1 ⟨x1, rfl, hDk, hB⟩; replace hS := hS.next hDk hB
            refine hK _ _ (But.more hB (by simp)) ?_
            clear hK
            intro hr
            replace hx := hx.trans hr
            clear hr
            try simp only [Act.put, List.setIfInBounds_toArray, List.set_cons_zero, List.set_cons_succ]
            first
              | (refine wpT_takeB hx (v := ?_) (List.getElem?_toArray.trans (by rfl)) (by rfl) (fun _ hc => ?_) ?_
                 rotate_left
                 focus (go_simp; (try go_ints); exact rfl)
                 simp only [Act.put, List.setIfInBounds_toArray, List.set_cons_zero, List.set_cons_succ])
              | (refine wpT_skip (List.getElem?_toArray.trans (by rfl)) (by rfl) ?_; simp only [Act.put, List.setIfInBounds_toArray, List.set_cons_zero, List.set_cons_succ])
            refine wpT_call (List.getElem?_toArray.trans (by rfl)) (by rfl) (fun K hK => ?_) ?_
            · skip
              go_simp
              go_at_call 26
              refine (next_any d _ _ hS.dk (by omega) (by omega)).mono ?_
              rintro e w1 ⟨x2, rfl, hy0, hy1, hDk, hB⟩; replace hS := hS.next hDk hB
              refine hK _ _ (But.more hB (by simp)) ?_
              clear hK
              intro hr
              replace hx := hx.trans hr
              clear hr
              try simp only [Act.put, List.setIfInBounds_toArray, List.set_cons_zero, List.set_cons_succ]
              refine wpT_call (List.getElem?_toArray.trans (by rfl)) (by rfl) (fun K hK => ?_) ?_
              · skip
                go_simp
                go_at_call 31
                refine (h31_any w.heap.size (w.heap.size + 1 + 1 + 1) d zl.length dd B zl _ hS.ku hS.kd hS.dk hS.rd (fun h0 ad ha => by have := (hS.hU h0 ad ha).1; omega) (by omega) (by omega) (by omega)).mono ?_
                rintro e w1 ⟨x3, rfl, hDk, hB⟩; replace hS := hS.next hDk hB
                refine hK _ _ (But.more hB (by simp)) ?_
                clear hK
                intro hr
                replace hx := hx.trans hr
                clear hr
                try simp only [Act.put, List.setIfInBounds_toArray, List.set_cons_zero, List.set_cons_succ]
                refine wpT_store (List.getElem?_toArray.trans (by rfl)) rfl (by rfl) (fun K hK => ?_) ?_
                · skip
                  have hcy := Ext.cell hy
                  have hfy := Ext.froz hy
                  (obtain ⟨_, _, _, _, kq'⟩ := hS.kq); have cq := kq'.cell; have fq := kq'.froz
                  go_simp
                  refine hK _ ?_ ?_
                  focus ((repeat (first | (with_reducible exact But.refl _ _) | assumption | (with_reducible refine But.drew ?_) | (with_reducible refine But.drewL ?_) | (with_reducible refine But.setCell ?_ ?_ _; rotate_left; (focus (simp; done))) | (with_reducible refine But.setCellL ?_ ?_; rotate_left; (focus (simp; done))) | (with_reducible refine But.alloc2 ?_ ?_; rotate_left; (focus (simp [World.setCell]; done))) | (with_reducible refine But.allocL ?_ ?_ ?_; rotate_left; (focus (simp; done)); (focus (simp; done))) | (with_reducible refine But.alloc ?_ _))); done)
                  clear hK
                  intro hr
                  replace hS := hS.store 1 x1
                  replace hx := hx.trans hr
                  clear hr
                  try simp only [Act.put, List.setIfInBounds_toArray, List.set_cons_zero, List.set_cons_succ]
                  first
                    | (refine wpT_takeB hx (v := ?_) (List.getElem?_toArray.trans (by rfl)) (by rfl) (fun _ hc => ?_) ?_
                       rotate_left
                       focus (go_simp; (try go_ints); exact rfl)
                       simp only [Act.put, List.setIfInBounds_toArray, List.set_cons_zero, List.set_cons_succ])
                    | (refine wpT_skip (List.getElem?_toArray.trans (by rfl)) (by rfl) ?_; simp only [Act.put, List.setIfInBounds_toArray, List.set_cons_zero, List.set_cons_succ])
                  refine wpT_store (List.getElem?_toArray.trans (by rfl)) rfl (by rfl) (fun K hK => ?_) ?_
                  · skip
                    have hcy := Ext.cell hy
                    have hfy := Ext.froz hy
                    (obtain ⟨_, _, _, _, kq'⟩ := hS.kq); have cq := kq'.cell; have fq := kq'.froz
                    go_simp
                    refine hK _ ?_ ?_
                    focus ((repeat (first | (with_reducible exact But.refl _ _) | assumption | (with_reducible refine But.drew ?_) | (with_reducible refine But.drewL ?_) | (with_reducible refine But.setCell ?_ ?_ _; rotate_left; (focus (simp; done))) | (with_reducible refine But.setCellL ?_ ?_; rotate_left; (focus (simp; done))) | (with_reducible refine But.alloc2 ?_ ?_; rotate_left; (focus (simp [World.setCell]; done))) | (with_reducible refine But.allocL ?_ ?_ ?_; rotate_left; (focus (simp; done)); (focus (simp; done))) | (with_reducible refine But.alloc ?_ _))); done)
                    clear hK
                    intro hr
                    replace hS := hS.store 2 x2
                    replace hx := hx.trans hr
                    clear hr
                    try simp only [Act.put, List.setIfInBounds_toArray, List.set_cons_zero, List.set_cons_succ]
                    first
                      | (refine wpT_takeB hx (v := ?_) (List.getElem?_toArray.trans (by rfl)) (by rfl) (fun _ hc => ?_) ?_
                         rotate_left
                         focus (go_simp; (try go_ints); exact rfl)
                         simp only [Act.put, List.setIfInBounds_toArray, List.set_cons_zero, List.set_cons_succ])
                      | (refine wpT_skip (List.getElem?_toArray.trans (by rfl)) (by rfl) ?_; simp only [Act.put, List.setIfInBounds_toArray, List.set_cons_zero, List.set_cons_succ])
                    refine wpT_store (List.getElem?_toArray.trans (by rfl)) rfl (by rfl) (fun K hK => ?_) ?_
                    · skip
                      have hcy := Ext.cell hy
                      have hfy := Ext.froz hy
                      (obtain ⟨_, _, _, _, kq'⟩ := hS.kq); have cq := kq'.cell; have fq := kq'.froz
                      go_simp
                      refine hK _ ?_ ?_
                      focus ((repeat (first | (with_reducible exact But.refl _ _) | assumption | (with_reducible refine But.drew ?_) | (with_reducible refine But.drewL ?_) | (with_reducible refine But.setCell ?_ ?_ _; rotate_left; (focus (simp; done))) | (with_reducible refine But.setCellL ?_ ?_; rotate_left; (focus (simp; done))) | (with_reducible refine But.alloc2 ?_ ?_; rotate_left; (focus (simp [World.setCell]; done))) | (with_reducible refine But.allocL ?_ ?_ ?_; rotate_left; (focus (simp; done)); (focus (simp; done))) | (with_reducible refine But.alloc ?_ _))); done)
                      clear hK
                      intro hr
                      replace hS := hS.store 3 x3
                      replace hx := hx.trans hr
                      clear hr
                      try simp only [Act.put, List.setIfInBounds_toArray, List.set_cons_zero, List.set_cons_succ]
                      refine wpT_done ?_
                      obtain ⟨f0, f1, f2, f3, kf⟩ := hS.kq
                      have cf := kf.cell
                      have cr := hS.kr.cell
                      have fr := hS.kr.froz
                      have hq3 := hS.hq
                      have nqr : q ≠ w.heap.size + 1 + 1 := by omega
                      have nrq : w.heap.size + 1 + 1 ≠ q := by omega
                      obtain ⟨e1, e2, e3⟩ := hS.fin (.int .i64 f0) (.int .i64 f1) (.int .i64 f2) (.int .i64 f3)
                      go_wp2
                      exact bodyPost_ret (v := .agg #[.int .i64 f0, .int .i64 f1, .int .i64 f2, .int .i64 f3]) (by simp [results, Try.results20, go_sem, e3]) rfl ⟨f0, f1, f2, f3, rfl, e1, e2⟩
                    exact wpT_none
                  exact wpT_none
                exact wpT_none
              exact wpT_none
            exact wpT_none
          exact wpT_none
        have z3 : (z == 3) = false := by simpa using c3
        by_cases c5 : z = 5
        · subst c5
          go_upto_region 21 with fail
          replace hS := hS.ext (Ext.drew (Ext.refl _))
          refine wp_region_treeB [d, q] (.take 0 (.take 2 (.take 4 (.alt 1 (.take 6 (.alt 3 (.alt 5 (.alt 7 (.take 8 (.alt 9 (.take 10 (.alt 11 .done .none)) .none)) .none) .none) .none)) .none)))) Try.mixed (by kernel_rfl) ?_
          intro hx hy
          first
            | (refine wpT_takeB hx (v := ?_) (List.getElem?_toArray.trans (by rfl)) (by rfl) (fun _ hc => ?_) ?_
               rotate_left
               focus (go_simp; (try go_ints); exact rfl)
               simp only [Act.put, List.setIfInBounds_toArray, List.set_cons_zero, List.set_cons_succ])
            | (refine wpT_skip (List.getElem?_toArray.trans (by rfl)) (by rfl) ?_; simp only [Act.put, List.setIfInBounds_toArray, List.set_cons_zero, List.set_cons_succ])
          first
            | (refine wpT_takeB hx (v := ?_) (List.getElem?_toArray.trans (by rfl)) (by rfl) (fun _ hc => ?_) ?_
               rotate_left
               focus (go_simp; (try go_ints); exact rfl)
               simp only [Act.put, List.setIfInBounds_toArray, List.set_cons_zero, List.set_cons_succ])
            | (refine wpT_skip (List.getElem?_toArray.trans (by rfl)) (by rfl) ?_; simp only [Act.put, List.setIfInBounds_toArray, List.set_cons_zero, List.set_cons_succ])
          first
            | (refine wpT_takeB hx (v := ?_) (List.getElem?_toArray.trans (by rfl)) (by rfl) (fun _ hc => ?_) ?_
               rotate_left
               focus (go_simp; (try go_ints); exact rfl)
               simp only [Act.put, List.setIfInBounds_toArray, List.set_cons_zero, List.set_cons_succ])
            | (refine wpT_skip (List.getElem?_toArray.trans (by rfl)) (by rfl) ?_; simp only [Act.put, List.setIfInBounds_toArray, List.set_cons_zero, List.set_cons_succ])
          refine wpT_call (List.getElem?_toArray.trans (by rfl)) (by rfl) (fun K hK => ?_) ?_
          · skip
            go_simp
            go_at_call 31
            refine (h31_any w.heap.size (w.heap.size + 1 + 1 + 1) d zl.length dd B zl _ hS.ku hS.kd hS.dk hS.rd (fun h0 ad ha => by have := (hS.hU h0 ad ha).1; omega) (by omega) (by omega) (by omega)).mono ?_
            rintro e w1 ⟨x1, rfl, hDk, hB⟩; replace hS := hS.next hDk hB
            refine hK _ _ (But.more hB (by simp)) ?_
            clear hK
            intro hr
            replace hx := hx.trans hr
            clear hr
            try simp only [Act.put, List.setIfInBounds_toArray, List.set_cons_zero, List.set_cons_succ]
            first
              | (refine wpT_takeB hx (v := ?_) (List.getElem?_toArray.trans (by rfl)) (by rfl) (fun _ hc => ?_) ?_
                 rotate_left
                 focus (go_simp; (try go_ints); exact rfl)
                 simp only [Act.put, List.setIfInBounds_toArray, List.set_cons_zero, List.set_cons_succ])
              | (refine wpT_skip (List.getElem?_toArray.trans (by rfl)) (by rfl) ?_; simp only [Act.put, List.setIfInBounds_toArray, List.set_cons_zero, List.set_cons_succ])
            refine wpT_call (List.getElem?_toArray.trans (by rfl)) (by rfl) (fun K hK => ?_) ?_
            · skip
              go_simp
              go_at_call 26
              refine (next_any d _ _ hS.dk (by omega) (by omega)).mono ?_
              rintro e w1 ⟨x2, rfl, hy0, hy1, hDk, hB⟩; replace hS := hS.next hDk hB
              refine hK _ _ (But.more hB (by simp)) ?_
              clear hK
              intro hr
              replace hx := hx.trans hr
              clear hr
              try simp only [Act.put, List.setIfInBounds_toArray, List.set_cons_zero, List.set_cons_succ]
              refine wpT_call (List.getElem?_toArray.trans (by rfl)) (by rfl) (fun K hK => ?_) ?_
              · skip
                go_simp
                go_at_call 26
                refine (next_any d _ _ hS.dk (by omega) (by omega)).mono ?_
                rintro e w1 ⟨x3, rfl, hy0, hy1, hDk, hB⟩; replace hS := hS.next hDk hB
                refine hK _ _ (But.more hB (by simp)) ?_
                clear hK
                intro hr
                replace hx := hx.trans hr
                clear hr
                try simp only [Act.put, List.setIfInBounds_toArray, List.set_cons_zero, List.set_cons_succ]
                refine wpT_store (List.getElem?_toArray.trans (by rfl)) rfl (by rfl) (fun K hK => ?_) ?_
                · skip
                  have hcy := Ext.cell hy
                  have hfy := Ext.froz hy
                  (obtain ⟨_, _, _, _, kq'⟩ := hS.kq); have cq := kq'.cell; have fq := kq'.froz
                  go_simp
                  refine hK _ ?_ ?_
                  focus ((repeat (first | (with_reducible exact But.refl _ _) | assumption | (with_reducible refine But.drew ?_) | (with_reducible refine But.drewL ?_) | (with_reducible refine But.setCell ?_ ?_ _; rotate_left; (focus (simp; done))) | (with_reducible refine But.setCellL ?_ ?_; rotate_left; (focus (simp; done))) | (with_reducible refine But.alloc2 ?_ ?_; rotate_left; (focus (simp [World.setCell]; done))) | (with_reducible refine But.allocL ?_ ?_ ?_; rotate_left; (focus (simp; done)); (focus (simp; done))) | (with_reducible refine But.alloc ?_ _))); done)
                  clear hK
                  intro hr
                  replace hS := hS.store 1 x1
                  replace hx := hx.trans hr
                  clear hr
                  try simp only [Act.put, List.setIfInBounds_toArray, List.set_cons_zero, List.set_cons_succ]
                  first
                    | (refine wpT_takeB hx (v := ?_) (List.getElem?_toArray.trans (by rfl)) (by rfl) (fun _ hc => ?_) ?_
                       rotate_left
                       focus (go_simp; (try go_ints); exact rfl)
                       simp only [Act.put, List.setIfInBounds_toArray, List.set_cons_zero, List.set_cons_succ])
                    | (refine wpT_skip (List.getElem?_toArray.trans (by rfl)) (by rfl) ?_; simp only [Act.put, List.setIfInBounds_toArray, List.set_cons_zero, List.set_cons_succ])
                  refine wpT_store (List.getElem?_toArray.trans (by rfl)) rfl (by rfl) (fun K hK => ?_) ?_
                  · skip
                    have hcy := Ext.cell hy
                    have hfy := Ext.froz hy
                    (obtain ⟨_, _, _, _, kq'⟩ := hS.kq); have cq := kq'.cell; have fq := kq'.froz
                    go_simp
                    refine hK _ ?_ ?_
                    focus ((repeat (first | (with_reducible exact But.refl _ _) | assumption | (with_reducible refine But.drew ?_) | (with_reducible refine But.drewL ?_) | (with_reducible refine But.setCell ?_ ?_ _; rotate_left; (focus (simp; done))) | (with_reducible refine But.setCellL ?_ ?_; rotate_left; (focus (simp; done))) | (with_reducible refine But.alloc2 ?_ ?_; rotate_left; (focus (simp [World.setCell]; done))) | (with_reducible refine But.allocL ?_ ?_ ?_; rotate_left; (focus (simp; done)); (focus (simp; done))) | (with_reducible refine But.alloc ?_ _))); done)
                    clear hK
                    intro hr
                    replace hS := hS.store 2 x2
                    replace hx := hx.trans hr
                    clear hr
                    try simp only [Act.put, List.setIfInBounds_toArray, List.set_cons_zero, List.set_cons_succ]
                    first
                      | (refine wpT_takeB hx (v := ?_) (List.getElem?_toArray.trans (by rfl)) (by rfl) (fun _ hc => ?_) ?_
                         rotate_left
                         focus (go_simp; (try go_ints); exact rfl)
                         simp only [Act.put, List.setIfInBounds_toArray, List.set_cons_zero, List.set_cons_succ])
                      | (refine wpT_skip (List.getElem?_toArray.trans (by rfl)) (by rfl) ?_; simp only [Act.put, List.setIfInBounds_toArray, List.set_cons_zero, List.set_cons_succ])
                    refine wpT_store (List.getElem?_toArray.trans (by rfl)) rfl (by rfl) (fun K hK => ?_) ?_
                    · skip
                      have hcy := Ext.cell hy
                      have hfy := Ext.froz hy
                      (obtain ⟨_, _, _, _, kq'⟩ := hS.kq); have cq := kq'.cell; have fq := kq'.froz
                      go_simp
                      refine hK _ ?_ ?_
                      focus ((repeat (first | (with_reducible exact But.refl _ _) | assumption | (with_reducible refine But.drew ?_) | (with_reducible refine But.drewL ?_) | (with_reducible refine But.setCell ?_ ?_ _; rotate_left; (focus (simp; done))) | (with_reducible refine But.setCellL ?_ ?_; rotate_left; (focus (simp; done))) | (with_reducible refine But.alloc2 ?_ ?_; rotate_left; (focus (simp [World.setCell]; done))) | (with_reducible refine But.allocL ?_ ?_ ?_; rotate_left; (focus (simp; done)); (focus (simp; done))) | (with_reducible refine But.alloc ?_ _))); done)
                      clear hK
                      intro hr
                      replace hS := hS.store 3 x3
                      replace hx := hx.trans hr
                      clear hr
                      try simp only [Act.put, List.setIfInBounds_toArray, List.set_cons_zero, List.set_cons_succ]
                      refine wpT_done ?_
                      obtain ⟨f0, f1, f2, f3, kf⟩ := hS.kq
                      have cf := kf.cell
                      have cr := hS.kr.cell
                      have fr := hS.kr.froz
                      have hq3 := hS.hq
                      have nqr : q ≠ w.heap.size + 1 + 1 := by omega
                      have nrq : w.heap.size + 1 + 1 ≠ q := by omega
                      obtain ⟨e1, e2, e3⟩ := hS.fin (.int .i64 f0) (.int .i64 f1) (.int .i64 f2) (.int .i64 f3)
                      go_wp2
                      exact bodyPost_ret (v := .agg #[.int .i64 f0, .int .i64 f1, .int .i64 f2, .int .i64 f3]) (by simp [results, Try.results20, go_sem, e3]) rfl ⟨f0, f1, f2, f3, rfl, e1, e2⟩
                    exact wpT_none
                  exact wpT_none
                exact wpT_none
              exact wpT_none
            exact wpT_none
          exact wpT_none
        have z5 : (z == 5) = false := by simpa using c5
        by_cases c6 : z = 6
        · subst c6
          have one : True := trivial
          go_upto_region 27 with (first | (go_at_call 31; refine (h31_any w.heap.size (w.heap.size + 1 + 1 + 1) d zl.length dd B zl _ hS.ku hS.kd hS.dk hS.rd (fun h0 ad ha => by have := (hS.hU h0 ad ha).1; omega) (by omega) (by omega) (by omega)).mono ?_; rintro e w1 ⟨x1, rfl, hDk, hB⟩; replace hS := hS.next hDk hB; (obtain ⟨_, _, _, _, kq'⟩ := hS.kq); have cq := kq'.cell; have fq := kq'.froz; (first | (clear one; obtain ⟨xa, rfl⟩ : ∃ y, y = x1 := ⟨_, rfl⟩) | (obtain ⟨xb, rfl⟩ : ∃ y, y = x1 := ⟨_, rfl⟩))))
          replace hS := (hS.store 1 xa).store 2 xb
          obtain ⟨f0, f1, f2, f3, kf⟩ := hS.kq
          have cf := kf.cell
          have cr := hS.kr.cell
          have fr := hS.kr.froz
          have hq3 := hS.hq
          have nqr : q ≠ w.heap.size + 1 + 1 := by omega
          have nrq : w.heap.size + 1 + 1 ≠ q := by omega
          obtain ⟨e1, e2, e3⟩ := hS.fin (.int .i64 f0) (.int .i64 f1) (.int .i64 f2) (.int .i64 f3)
          go_wp2
          exact bodyPost_ret (v := .agg #[.int .i64 f0, .int .i64 f1, .int .i64 f2, .int .i64 f3]) (by simp [results, Try.results20, go_sem, e3]) rfl ⟨f0, f1, f2, f3, rfl, e1, e2⟩
        have z6 : (z == 6) = false := by simpa using c6
        by_cases c7 : z = 7
        · subst c7
          have one : True := trivial
          go_upto_region 27 with (first | (go_at_call 31; refine (h31_any w.heap.size (w.heap.size + 1 + 1 + 1) d zl.length dd B zl _ hS.ku hS.kd hS.dk hS.rd (fun h0 ad ha => by have := (hS.hU h0 ad ha).1; omega) (by omega) (by omega) (by omega)).mono ?_; rintro e w1 ⟨x1, rfl, hDk, hB⟩; replace hS := hS.next hDk hB; (obtain ⟨_, _, _, _, kq'⟩ := hS.kq); have cq := kq'.cell; have fq := kq'.froz; (first | (clear one; obtain ⟨xa, rfl⟩ : ∃ y, y = x1 := ⟨_, rfl⟩) | (obtain ⟨xb, rfl⟩ : ∃ y, y = x1 := ⟨_, rfl⟩))))
          replace hS := hS.store 1 xa
          obtain ⟨f0, f1, f2, f3, kf⟩ := hS.kq
          have cf := kf.cell
          have cr := hS.kr.cell
          have fr := hS.kr.froz
          have hq3 := hS.hq
          have nqr : q ≠ w.heap.size + 1 + 1 := by omega
          have nrq : w.heap.size + 1 + 1 ≠ q := by omega
          obtain ⟨e1, e2, e3⟩ := hS.fin (.int .i64 f0) (.int .i64 f1) (.int .i64 f2) (.int .i64 f3)
          go_wp2
          exact bodyPost_ret (v := .agg #[.int .i64 f0, .int .i64 f1, .int .i64 f2, .int .i64 f3]) (by simp [results, Try.results20, go_sem, e3]) rfl ⟨f0, f1, f2, f3, rfl, e1, e2⟩
        have z7 : (z == 7) = false := by simpa using c7
        by_cases c9 : z = 9
        · subst c9
          have one : True := trivial
          go_upto_region 27 with (first | (go_at_call 31; refine (h31_any w.heap.size (w.heap.size + 1 + 1 + 1) d zl.length dd B zl _ hS.ku hS.kd hS.dk hS.rd (fun h0 ad ha => by have := (hS.hU h0 ad ha).1; omega) (by omega) (by omega) (by omega)).mono ?_; rintro e w1 ⟨x1, rfl, hDk, hB⟩; replace hS := hS.next hDk hB; (obtain ⟨_, _, _, _, kq'⟩ := hS.kq); have cq := kq'.cell; have fq := kq'.froz; (first | (clear one; obtain ⟨xa, rfl⟩ : ∃ y, y = x1 := ⟨_, rfl⟩) | (obtain ⟨xb, rfl⟩ : ∃ y, y = x1 := ⟨_, rfl⟩))))
          replace hS := hS.store 1 xa
          obtain ⟨f0, f1, f2, f3, kf⟩ := hS.kq
          have cf := kf.cell
          have cr := hS.kr.cell
          have fr := hS.kr.froz
          have hq3 := hS.hq
          have nqr : q ≠ w.heap.size + 1 + 1 := by omega
          have nrq : w.heap.size + 1 + 1 ≠ q := by omega
          obtain ⟨e1, e2, e3⟩ := hS.fin (.int .i64 f0) (.int .i64 f1) (.int .i64 f2) (.int .i64 f3)
          go_wp2
          exact bodyPost_ret (v := .agg #[.int .i64 f0, .int .i64 f1, .int .i64 f2, .int .i64 f3]) (by simp [results, Try.results20, go_sem, e3]) rfl ⟨f0, f1, f2, f3, rfl, e1, e2⟩
        have z9 : (z == 9) = false := by simpa using c9
        go_upto_region 27 with fail
        clear kq mq
        obtain ⟨f0, f1, f2, f3, kf⟩ := hS.kq
        have cf := kf.cell
        have cr := hS.kr.cell
        have fr := hS.kr.froz
        have hq3 := hS.hq
        have nqr : q ≠ w.heap.size + 1 + 1 := by omega
        have nrq : w.heap.size + 1 + 1 ≠ q := by omega
        obtain ⟨e1, e2, e3⟩ := hS.fin (.int .i64 f0) (.int .i64 f1) (.int .i64 f2) (.int .i64 f3)
        go_wp2
        exact bodyPost_ret (v := .agg #[.int .i64 f0, .int .i64 f1, .int .i64 f2, .int .i64 f3]) (by simp [results, Try.results20, go_sem, e3]) rfl ⟨f0, f1, f2, f3, rfl, e1, e2⟩
      · have hm1 : decide ((20 : Int) < zl.length) = false := by simp; omega
        have hm2 : decide (20 < zl.length) = false := by simp; omega
        go_upto_region 12 with fail
        by_cases c1 : z = 1
        · subst c1
          go_upto_region 14 with fail
          replace hS := hS.ext (Ext.drew (Ext.refl _))
          refine wp_region_treeB [d, q] (.take 0 (.take 2 (.take 4 (.alt 1 (.take 9 (.alt 3 (.alt 5 (.take 6 (.take 7 (.alt 8 (.alt 10 (.take 11 (.alt 12 .done .none)) .none) .none))) .none) (.alt 5 (.alt 3 (.take 6 (.take 7 (.alt 8 (.alt 10 (.take 11 (.alt 12 .done .none)) .none) .none))) .none) .none))) (.alt 3 (.alt 1 (.take 9 (.alt 5 (.take 6 (.take 7 (.alt 8 (.alt 10 (.take 11 (.alt 12 .done .none)) .none) .none))) .none)) .none) .none))))) Try.mixed (by kernel_rfl) ?_
          intro hx hy
          first
            | (refine wpT_takeB hx (v := ?_) (List.getElem?_toArray.trans (by rfl)) (by rfl) (fun _ hc => ?_) ?_
               rotate_left
               focus (go_simp; (try go_ints); exact rfl)
               simp only [Act.put, List.setIfInBounds_toArray, List.set_cons_zero, List.set_cons_succ])
            | (refine wpT_skip (List.getElem?_toArray.trans (by rfl)) (by rfl) ?_; simp only [Act.put, List.setIfInBounds_toArray, List.set_cons_zero, List.set_cons_succ])
          first
            | (refine wpT_takeB hx (v := ?_) (List.getElem?_toArray.trans (by rfl)) (by rfl) (fun _ hc => ?_) ?_
               rotate_left
               focus (go_simp; (try go_ints); exact rfl)
               simp only [Act.put, List.setIfInBounds_toArray, List.set_cons_zero, List.set_cons_succ])
            | (refine wpT_skip (List.getElem?_toArray.trans (by rfl)) (by rfl) ?_; simp only [Act.put, List.setIfInBounds_toArray, List.set_cons_zero, List.set_cons_succ])
          first
            | (refine wpT_takeB hx (v := ?_) (List.getElem?_toArray.trans (by rfl)) (by rfl) (fun _ hc => ?_) ?_
               rotate_left
               focus (go_simp; (try go_ints); exact rfl)
               simp only [Act.put, List.setIfInBounds_toArray, List.set_cons_zero, List.set_cons_succ])
            | (refine wpT_skip (List.getElem?_toArray.trans (by rfl)) (by rfl) ?_; simp only [Act.put, List.setIfInBounds_toArray, List.set_cons_zero, List.set_cons_succ])
          refine wpT_call (List.getElem?_toArray.trans (by rfl)) (by rfl) (fun K hK => ?_) ?_
          · skip
            go_simp
            go_at_call 26
            refine (next_any d _ _ hS.dk (by omega) (by omega)).mono ?_
            rintro e w1 ⟨x1, rfl, hy0, hy1, hDk, hB⟩; replace hS := hS.next hDk hB; (try (replace kb := kb.but hB nbd))
            refine hK _ _ (But.more hB (by simp)) ?_
            clear hK
            intro hr
            replace hx := hx.trans hr
            clear hr
            try simp only [Act.put, List.setIfInBounds_toArray, List.set_cons_zero, List.set_cons_succ]
            first
              | (refine wpT_takeB hx (v := ?_) (List.getElem?_toArray.trans (by rfl)) (by rfl) (fun _ hc => ?_) ?_
                 rotate_left
                 focus (go_simp; (try go_ints); exact rfl)
                 simp only [Act.put, List.setIfInBounds_toArray, List.set_cons_zero, List.set_cons_succ])
              | (refine wpT_skip (List.getElem?_toArray.trans (by rfl)) (by rfl) ?_; simp only [Act.put, List.setIfInBounds_toArray, List.set_cons_zero, List.set_cons_succ])
            refine wpT_call (List.getElem?_toArray.trans (by rfl)) (by rfl) (fun K hK => ?_) ?_
            · skip
              have hcy := Ext.cell hy
              have hfy := Ext.froz hy
              
              go_simp
              first | (refine hK _ _ ?_ ?_; (focus ((repeat (first | (with_reducible exact But.refl _ _) | assumption | (with_reducible refine But.drew ?_) | (with_reducible refine But.drewL ?_) | (with_reducible refine But.setCell ?_ ?_ _; rotate_left; (focus (simp; done))) | (with_reducible refine But.setCellL ?_ ?_; rotate_left; (focus (simp; done))) | (with_reducible refine But.alloc2 ?_ ?_; rotate_left; (focus (simp [World.setCell]; done))) | (with_reducible refine But.allocL ?_ ?_ ?_; rotate_left; (focus (simp; done)); (focus (simp; done))) | (with_reducible refine But.alloc ?_ _))); done))) | (refine hK undef _ ?_ ?_; (focus ((repeat (first | (with_reducible exact But.refl _ _) | assumption | (with_reducible refine But.drew ?_) | (with_reducible refine But.drewL ?_) | (with_reducible refine But.setCell ?_ ?_ _; rotate_left; (focus (simp; done))) | (with_reducible refine But.setCellL ?_ ?_; rotate_left; (focus (simp; done))) | (with_reducible refine But.alloc2 ?_ ?_; rotate_left; (focus (simp [World.setCell]; done))) | (with_reducible refine But.allocL ?_ ?_ ?_; rotate_left; (focus (simp; done)); (focus (simp; done))) | (with_reducible refine But.alloc ?_ _))); done)))
              clear hK
              intro hr
              have kb := blk_of_but hr; (obtain ⟨_, _, _, _, kq'⟩ := hS.kq); have lq := kq'.lt; replace hS := hS.ext (Ext.alloc (Ext.refl _) (.cells sizes.toArray 3)); have nbd := nin_of (dk_ne hS.dk kb (by decide))
              replace hx := hx.trans hr
              clear hr
              try simp only [Act.put, List.setIfInBounds_toArray, List.set_cons_zero, List.set_cons_succ]
              refine wpT_call (List.getElem?_toArray.trans (by rfl)) (by rfl) (fun K hK => ?_) ?_
              · skip
                go_simp
                go_at_call 26
                refine (next_any d _ _ hS.dk (by omega) (by omega)).mono ?_
                rintro e w1 ⟨x2, rfl, hy0, hy1, hDk, hB⟩; replace hS := hS.next hDk hB; (try (replace kb := kb.but hB nbd)); (obtain ⟨i2, rfl⟩ : ∃ i2 : Nat, x2 = i2 := ⟨x2.toNat, by omega⟩); have hi4 : i2 < 4 := (by omega); have hi4' : (i2 : Int) < 4 := (by omega)
                refine hK _ _ (But.more hB (by simp)) ?_
                clear hK
                intro hr
                replace hx := hx.trans hr
                clear hr
                try simp only [Act.put, List.setIfInBounds_toArray, List.set_cons_zero, List.set_cons_succ]
                first
                  | (refine wpT_takeB hx (v := ?_) (List.getElem?_toArray.trans (by rfl)) (by rfl) (fun _ hc => ?_) ?_
                     rotate_left
                     focus (go_simp; (try go_ints); exact rfl)
                     simp only [Act.put, List.setIfInBounds_toArray, List.set_cons_zero, List.set_cons_succ])
                  | (refine wpT_skip (List.getElem?_toArray.trans (by rfl)) (by rfl) ?_; simp only [Act.put, List.setIfInBounds_toArray, List.set_cons_zero, List.set_cons_succ])
                (obtain ⟨y, hsz, hs1, hs17⟩ := sizes_at i2 hi4); have cy := (kb.cell i2).trans hsz; have ly := kb.lt; (obtain ⟨_, _, _, _, kq'⟩ := hS.kq); have nb1 := kb.ne_ kq' (by decide); have nb2 := dk_ne hS.dk kb (by decide); (first | (replace cy : w1.cell? ⟨W9.heap.size, i2, none⟩ = some (.int .i64 y) := cy; replace nb1 : W9.heap.size ≠ q := nb1; replace nb2 : W9.heap.size ≠ d := nb2; replace ly : W9.heap.size < w1.heap.size := ly) | skip)
                first
                  | (refine wpT_takeB (But.refl _ _) (v := ?_) (List.getElem?_toArray.trans (by rfl)) (by rfl) (fun _ hc => ?_) ?_
                     rotate_left
                     focus (go_simp; (try go_ints); exact rfl)
                     simp only [Act.put, List.setIfInBounds_toArray, List.set_cons_zero, List.set_cons_succ])
                  | (refine wpT_skip (List.getElem?_toArray.trans (by rfl)) (by rfl) ?_; simp only [Act.put, List.setIfInBounds_toArray, List.set_cons_zero, List.set_cons_succ])
                refine wpT_call (List.getElem?_toArray.trans (by rfl)) (by rfl) (fun K hK => ?_) ?_
                · skip
                  go_simp
                  go_at_call 26
                  refine (next_any d _ _ hS.dk (by omega) (by omega)).mono ?_
                  rintro e w1 ⟨x3, rfl, hy0, hy1, hDk, hB⟩; replace hS := hS.next hDk hB; (try (replace kb := kb.but hB nbd))
                  refine hK _ _ (But.more hB (by simp)) ?_
                  clear hK
                  intro hr
                  replace hx := hx.trans hr
                  clear hr
                  try simp only [Act.put, List.setIfInBounds_toArray, List.set_cons_zero, List.set_cons_succ]
                  refine wpT_store (List.getElem?_toArray.trans (by rfl)) rfl (by rfl) (fun K hK => ?_) ?_
                  · skip
                    have hcy := Ext.cell hy
                    have hfy := Ext.froz hy
                    (obtain ⟨_, _, _, _, kq'⟩ := hS.kq); have cq := kq'.cell; have fq := kq'.froz
                    go_simp
                    refine hK _ ?_ ?_
                    focus ((repeat (first | (with_reducible exact But.refl _ _) | assumption | (with_reducible refine But.drew ?_) | (with_reducible refine But.drewL ?_) | (with_reducible refine But.setCell ?_ ?_ _; rotate_left; (focus (simp; done))) | (with_reducible refine But.setCellL ?_ ?_; rotate_left; (focus (simp; done))) | (with_reducible refine But.alloc2 ?_ ?_; rotate_left; (focus (simp [World.setCell]; done))) | (with_reducible refine But.allocL ?_ ?_ ?_; rotate_left; (focus (simp; done)); (focus (simp; done))) | (with_reducible refine But.alloc ?_ _))); done)
                    clear hK
                    intro hr
                    replace hS := hS.store 1 x1
                    replace hx := hx.trans hr
                    clear hr
                    try simp only [Act.put, List.setIfInBounds_toArray, List.set_cons_zero, List.set_cons_succ]
                    first
                      | (refine wpT_takeB hx (v := ?_) (List.getElem?_toArray.trans (by rfl)) (by rfl) (fun _ hc => ?_) ?_
                         rotate_left
                         focus (go_simp; (try go_ints); exact rfl)
                         simp only [Act.put, List.setIfInBounds_toArray, List.set_cons_zero, List.set_cons_succ])
                      | (refine wpT_skip (List.getElem?_toArray.trans (by rfl)) (by rfl) ?_; simp only [Act.put, List.setIfInBounds_toArray, List.set_cons_zero, List.set_cons_succ])
                    refine wpT_store (List.getElem?_toArray.trans (by rfl)) rfl (by rfl) (fun K hK => ?_) ?_
                    · skip
                      have hcy := Ext.cell hy
                      have hfy := Ext.froz hy
                      (obtain ⟨_, _, _, _, kq'⟩ := hS.kq); have cq := kq'.cell; have fq := kq'.froz
                      go_simp
                      refine hK _ ?_ ?_
                      focus ((repeat (first | (with_reducible exact But.refl _ _) | assumption | (with_reducible refine But.drew ?_) | (with_reducible refine But.drewL ?_) | (with_reducible refine But.setCell ?_ ?_ _; rotate_left; (focus (simp; done))) | (with_reducible refine But.setCellL ?_ ?_; rotate_left; (focus (simp; done))) | (with_reducible refine But.alloc2 ?_ ?_; rotate_left; (focus (simp [World.setCell]; done))) | (with_reducible refine But.allocL ?_ ?_ ?_; rotate_left; (focus (simp; done)); (focus (simp; done))) | (with_reducible refine But.alloc ?_ _))); done)
                      clear hK
                      intro hr
                      replace hS := hS.store 2 x3
                      replace hx := hx.trans hr
                      clear hr
                      try simp only [Act.put, List.setIfInBounds_toArray, List.set_cons_zero, List.set_cons_succ]
                      refine wpT_done ?_
                      obtain ⟨f0, f1, f2, f3, kf⟩ := hS.kq
                      have cf := kf.cell
                      have cr := hS.kr.cell
                      have fr := hS.kr.froz
                      have hq3 := hS.hq
                      have nqr : q ≠ w.heap.size + 1 + 1 := by omega
                      have nrq : w.heap.size + 1 + 1 ≠ q := by omega
                      obtain ⟨e1, e2, e3⟩ := hS.fin (.int .i64 f0) (.int .i64 f1) (.int .i64 f2) (.int .i64 f3)
                      go_wp2
                      exact bodyPost_ret (v := .agg #[.int .i64 f0, .int .i64 f1, .int .i64 f2, .int .i64 f3]) (by simp [results, Try.results20, go_sem, e3]) rfl ⟨f0, f1, f2, f3, rfl, e1, e2⟩
                    exact wpT_none
                  exact wpT_none
                exact wpT_none
              exact wpT_none
            refine wpT_call (List.getElem?_toArray.trans (by rfl)) (by rfl) (fun K hK => ?_) ?_
            · skip
              go_simp
              go_at_call 26
              refine (next_any d _ _ hS.dk (by omega) (by omega)).mono ?_
              rintro e w1 ⟨x2, rfl, hy0, hy1, hDk, hB⟩; replace hS := hS.next hDk hB; (try (replace kb := kb.but hB nbd)); (obtain ⟨i2, rfl⟩ : ∃ i2 : Nat, x2 = i2 := ⟨x2.toNat, by omega⟩); have hi4 : i2 < 4 := (by omega); have hi4' : (i2 : Int) < 4 := (by omega)
              refine hK _ _ (But.more hB (by simp)) ?_
              clear hK
              intro hr
              replace hx := hx.trans hr
              clear hr
              try simp only [Act.put, List.setIfInBounds_toArray, List.set_cons_zero, List.set_cons_succ]
              refine wpT_call (List.getElem?_toArray.trans (by rfl)) (by rfl) (fun K hK => ?_) ?_
              · skip
                have hcy := Ext.cell hy
                have hfy := Ext.froz hy
                
                go_simp
                first | (refine hK _ _ ?_ ?_; (focus ((repeat (first | (with_reducible exact But.refl _ _) | assumption | (with_reducible refine But.drew ?_) | (with_reducible refine But.drewL ?_) | (with_reducible refine But.setCell ?_ ?_ _; rotate_left; (focus (simp; done))) | (with_reducible refine But.setCellL ?_ ?_; rotate_left; (focus (simp; done))) | (with_reducible refine But.alloc2 ?_ ?_; rotate_left; (focus (simp [World.setCell]; done))) | (with_reducible refine But.allocL ?_ ?_ ?_; rotate_left; (focus (simp; done)); (focus (simp; done))) | (with_reducible refine But.alloc ?_ _))); done))) | (refine hK undef _ ?_ ?_; (focus ((repeat (first | (with_reducible exact But.refl _ _) | assumption | (with_reducible refine But.drew ?_) | (with_reducible refine But.drewL ?_) | (with_reducible refine But.setCell ?_ ?_ _; rotate_left; (focus (simp; done))) | (with_reducible refine But.setCellL ?_ ?_; rotate_left; (focus (simp; done))) | (with_reducible refine But.alloc2 ?_ ?_; rotate_left; (focus (simp [World.setCell]; done))) | (with_reducible refine But.allocL ?_ ?_ ?_; rotate_left; (focus (simp; done)); (focus (simp; done))) | (with_reducible refine But.alloc ?_ _))); done)))
                clear hK
                intro hr
                have kb := blk_of_but hr; (obtain ⟨_, _, _, _, kq'⟩ := hS.kq); have lq := kq'.lt; replace hS := hS.ext (Ext.alloc (Ext.refl _) (.cells sizes.toArray 3)); have nbd := nin_of (dk_ne hS.dk kb (by decide))
                replace hx := hx.trans hr
                clear hr
                try simp only [Act.put, List.setIfInBounds_toArray, List.set_cons_zero, List.set_cons_succ]
                first
                  | (refine wpT_takeB hx (v := ?_) (List.getElem?_toArray.trans (by rfl)) (by rfl) (fun _ hc => ?_) ?_
                     rotate_left
                     focus (go_simp; (try go_ints); exact rfl)
                     simp only [Act.put, List.setIfInBounds_toArray, List.set_cons_zero, List.set_cons_succ])
                  | (refine wpT_skip (List.getElem?_toArray.trans (by rfl)) (by rfl) ?_; simp only [Act.put, List.setIfInBounds_toArray, List.set_cons_zero, List.set_cons_succ])
                (obtain ⟨y, hsz, hs1, hs17⟩ := sizes_at i2 hi4); have cy := (kb.cell i2).trans hsz; have ly := kb.lt; (obtain ⟨_, _, _, _, kq'⟩ := hS.kq); have nb1 := kb.ne_ kq' (by decide); have nb2 := dk_ne hS.dk kb (by decide); (first | (replace cy : w1.cell? ⟨W9.heap.size, i2, none⟩ = some (.int .i64 y) := cy; replace nb1 : W9.heap.size ≠ q := nb1; replace nb2 : W9.heap.size ≠ d := nb2; replace ly : W9.heap.size < w1.heap.size := ly) | skip)
                first
                  | (refine wpT_takeB (But.refl _ _) (v := ?_) (List.getElem?_toArray.trans (by rfl)) (by rfl) (fun _ hc => ?_) ?_
                     rotate_left
                     focus (go_simp; (try go_ints); exact rfl)
                     simp only [Act.put, List.setIfInBounds_toArray, List.set_cons_zero, List.set_cons_succ])
                  | (refine wpT_skip (List.getElem?_toArray.trans (by rfl)) (by rfl) ?_; simp only [Act.put, List.setIfInBounds_toArray, List.set_cons_zero, List.set_cons_succ])
                refine wpT_call (List.getElem?_toArray.trans (by rfl)) (by rfl) (fun K hK => ?_) ?_
                · skip
                  go_simp
                  go_at_call 26
                  refine (next_any d _ _ hS.dk (by omega) (by omega)).mono ?_
                  rintro e w1 ⟨x3, rfl, hy0, hy1, hDk, hB⟩; replace hS := hS.next hDk hB; (try (replace kb := kb.but hB nbd))
                  refine hK _ _ (But.more hB (by simp)) ?_
                  clear hK
                  intro hr
                  replace hx := hx.trans hr
                  clear hr
                  try simp only [Act.put, List.setIfInBounds_toArray, List.set_cons_zero, List.set_cons_succ]
                  refine wpT_store (List.getElem?_toArray.trans (by rfl)) rfl (by rfl) (fun K hK => ?_) ?_
                  · skip
                    have hcy := Ext.cell hy
                    have hfy := Ext.froz hy
                    (obtain ⟨_, _, _, _, kq'⟩ := hS.kq); have cq := kq'.cell; have fq := kq'.froz
                    go_simp
                    refine hK _ ?_ ?_
                    focus ((repeat (first | (with_reducible exact But.refl _ _) | assumption | (with_reducible refine But.drew ?_) | (with_reducible refine But.drewL ?_) | (with_reducible refine But.setCell ?_ ?_ _; rotate_left; (focus (simp; done))) | (with_reducible refine But.setCellL ?_ ?_; rotate_left; (focus (simp; done))) | (with_reducible refine But.alloc2 ?_ ?_; rotate_left; (focus (simp [World.setCell]; done))) | (with_reducible refine But.allocL ?_ ?_ ?_; rotate_left; (focus (simp; done)); (focus (simp; done))) | (with_reducible refine But.alloc ?_ _))); done)
                    clear hK
                    intro hr
                    replace hS := hS.store 1 x1
                    replace hx := hx.trans hr
                    clear hr
                    try simp only [Act.put, List.setIfInBounds_toArray, List.set_cons_zero, List.set_cons_succ]
                    first
                      | (refine wpT_takeB hx (v := ?_) (List.getElem?_toArray.trans (by rfl)) (by rfl) (fun _ hc => ?_) ?_
                         rotate_left
                         focus (go_simp; (try go_ints); exact rfl)
                         simp only [Act.put, List.setIfInBounds_toArray, List.set_cons_zero, List.set_cons_succ])
                      | (refine wpT_skip (List.getElem?_toArray.trans (by rfl)) (by rfl) ?_; simp only [Act.put, List.setIfInBounds_toArray, List.set_cons_zero, List.set_cons_succ])
                    refine wpT_store (List.getElem?_toArray.trans (by rfl)) rfl (by rfl) (fun K hK => ?_) ?_
                    · skip
                      have hcy := Ext.cell hy
                      have hfy := Ext.froz hy
                      (obtain ⟨_, _, _, _, kq'⟩ := hS.kq); have cq := kq'.cell; have fq := kq'.froz
                      go_simp
                      refine hK _ ?_ ?_
                      focus ((repeat (first | (with_reducible exact But.refl _ _) | assumption | (with_reducible refine But.drew ?_) | (with_reducible refine But.drewL ?_) | (with_reducible refine But.setCell ?_ ?_ _; rotate_left; (focus (simp; done))) | (with_reducible refine But.setCellL ?_ ?_; rotate_left; (focus (simp; done))) | (with_reducible refine But.alloc2 ?_ ?_; rotate_left; (focus (simp [World.setCell]; done))) | (with_reducible refine But.allocL ?_ ?_ ?_; rotate_left; (focus (simp; done)); (focus (simp; done))) | (with_reducible refine But.alloc ?_ _))); done)
                      clear hK
                      intro hr
                      replace hS := hS.store 2 x3
                      replace hx := hx.trans hr
                      clear hr
                      try simp only [Act.put, List.setIfInBounds_toArray, List.set_cons_zero, List.set_cons_succ]
                      refine wpT_done ?_
                      obtain ⟨f0, f1, f2, f3, kf⟩ := hS.kq
                      have cf := kf.cell
                      have cr := hS.kr.cell
                      have fr := hS.kr.froz
                      have hq3 := hS.hq
                      have nqr : q ≠ w.heap.size + 1 + 1 := by omega
                      have nrq : w.heap.size + 1 + 1 ≠ q := by omega
                      obtain ⟨e1, e2, e3⟩ := hS.fin (.int .i64 f0) (.int .i64 f1) (.int .i64 f2) (.int .i64 f3)
                      go_wp2
                      exact bodyPost_ret (v := .agg #[.int .i64 f0, .int .i64 f1, .int .i64 f2, .int .i64 f3]) (by simp [results, Try.results20, go_sem, e3]) rfl ⟨f0, f1, f2, f3, rfl, e1, e2⟩
                    exact wpT_none
                  exact wpT_none
                exact wpT_none
              exact wpT_none
            exact wpT_none
          refine wpT_call (List.getElem?_toArray.trans (by rfl)) (by rfl) (fun K hK => ?_) ?_
          · skip
            have hcy := Ext.cell hy
            have hfy := Ext.froz hy
            
            go_simp
            first | (refine hK _ _ ?_ ?_; (focus ((repeat (first | (with_reducible exact But.refl _ _) | assumption | (with_reducible refine But.drew ?_) | (with_reducible refine But.drewL ?_) | (with_reducible refine But.setCell ?_ ?_ _; rotate_left; (focus (simp; done))) | (with_reducible refine But.setCellL ?_ ?_; rotate_left; (focus (simp; done))) | (with_reducible refine But.alloc2 ?_ ?_; rotate_left; (focus (simp [World.setCell]; done))) | (with_reducible refine But.allocL ?_ ?_ ?_; rotate_left; (focus (simp; done)); (focus (simp; done))) | (with_reducible refine But.alloc ?_ _))); done))) | (refine hK undef _ ?_ ?_; (focus ((repeat (first | (with_reducible exact But.refl _ _) | assumption | (with_reducible refine But.drew ?_) | (with_reducible refine But.drewL ?_) | (with_reducible refine But.setCell ?_ ?_ _; rotate_left; (focus (simp; done))) | (with_reducible refine But.setCellL ?_ ?_; rotate_left; (focus (simp; done))) | (with_reducible refine But.alloc2 ?_ ?_; rotate_left; (focus (simp [World.setCell]; done))) | (with_reducible refine But.allocL ?_ ?_ ?_; rotate_left; (focus (simp; done)); (focus (simp; done))) | (with_reducible refine But.alloc ?_ _))); done)))
            clear hK
            intro hr
            have kb := blk_of_but hr; (obtain ⟨_, _, _, _, kq'⟩ := hS.kq); have lq := kq'.lt; replace hS := hS.ext (Ext.alloc (Ext.refl _) (.cells sizes.toArray 3)); have nbd := nin_of (dk_ne hS.dk kb (by decide))
            replace hx := hx.trans hr
            clear hr
            try simp only [Act.put, List.setIfInBounds_toArray, List.set_cons_zero, List.set_cons_succ]
            refine wpT_call (List.getElem?_toArray.trans (by rfl)) (by rfl) (fun K hK => ?_) ?_
            · skip
              go_simp
              go_at_call 26
              refine (next_any d _ _ hS.dk (by omega) (by omega)).mono ?_
              rintro e w1 ⟨x1, rfl, hy0, hy1, hDk, hB⟩; replace hS := hS.next hDk hB; (try (replace kb := kb.but hB nbd))
              refine hK _ _ (But.more hB (by simp)) ?_
              clear hK
              intro hr
              replace hx := hx.trans hr
              clear hr
              try simp only [Act.put, List.setIfInBounds_toArray, List.set_cons_zero, List.set_cons_succ]
              first
                | (refine wpT_takeB hx (v := ?_) (List.getElem?_toArray.trans (by rfl)) (by rfl) (fun _ hc => ?_) ?_
                   rotate_left
                   focus (go_simp; (try go_ints); exact rfl)
                   simp only [Act.put, List.setIfInBounds_toArray, List.set_cons_zero, List.set_cons_succ])
                | (refine wpT_skip (List.getElem?_toArray.trans (by rfl)) (by rfl) ?_; simp only [Act.put, List.setIfInBounds_toArray, List.set_cons_zero, List.set_cons_succ])
              refine wpT_call (List.getElem?_toArray.trans (by rfl)) (by rfl) (fun K hK => ?_) ?_
              · skip
                go_simp
                go_at_call 26
                refine (next_any d _ _ hS.dk (by omega) (by omega)).mono ?_
                rintro e w1 ⟨x2, rfl, hy0, hy1, hDk, hB⟩; replace hS := hS.next hDk hB; (try (replace kb := kb.but hB nbd)); (obtain ⟨i2, rfl⟩ : ∃ i2 : Nat, x2 = i2 := ⟨x2.toNat, by omega⟩); have hi4 : i2 < 4 := (by omega); have hi4' : (i2 : Int) < 4 := (by omega)
                refine hK _ _ (But.more hB (by simp)) ?_
                clear hK
                intro hr
                replace hx := hx.trans hr
                clear hr
                try simp only [Act.put, List.setIfInBounds_toArray, List.set_cons_zero, List.set_cons_succ]
                first
                  | (refine wpT_takeB hx (v := ?_) (List.getElem?_toArray.trans (by rfl)) (by rfl) (fun _ hc => ?_) ?_
                     rotate_left
                     focus (go_simp; (try go_ints); exact rfl)
                     simp only [Act.put, List.setIfInBounds_toArray, List.set_cons_zero, List.set_cons_succ])
                  | (refine wpT_skip (List.getElem?_toArray.trans (by rfl)) (by rfl) ?_; simp only [Act.put, List.setIfInBounds_toArray, List.set_cons_zero, List.set_cons_succ])
                (obtain ⟨y, hsz, hs1, hs17⟩ := sizes_at i2 hi4); have cy := (kb.cell i2).trans hsz; have ly := kb.lt; (obtain ⟨_, _, _, _, kq'⟩ := hS.kq); have nb1 := kb.ne_ kq' (by decide); have nb2 := dk_ne hS.dk kb (by decide); (first | (replace cy : w1.cell? ⟨W9.heap.size, i2, none⟩ = some (.int .i64 y) := cy; replace nb1 : W9.heap.size ≠ q := nb1; replace nb2 : W9.heap.size ≠ d := nb2; replace ly : W9.heap.size < w1.heap.size := ly) | skip)
                first
                  | (refine wpT_takeB (But.refl _ _) (v := ?_) (List.getElem?_toArray.trans (by rfl)) (by rfl) (fun _ hc => ?_) ?_
                     rotate_left
                     focus (go_simp; (try go_ints); exact rfl)
                     simp only [Act.put, List.setIfInBounds_toArray, List.set_cons_zero, List.set_cons_succ])
                  | (refine wpT_skip (List.getElem?_toArray.trans (by rfl)) (by rfl) ?_; simp only [Act.put, List.setIfInBounds_toArray, List.set_cons_zero, List.set_cons_succ])
                refine wpT_call (List.getElem?_toArray.trans (by rfl)) (by rfl) (fun K hK => ?_) ?_
                · skip
                  go_simp
                  go_at_call 26
                  refine (next_any d _ _ hS.dk (by omega) (by omega)).mono ?_
                  rintro e w1 ⟨x3, rfl, hy0, hy1, hDk, hB⟩; replace hS := hS.next hDk hB; (try (replace kb := kb.but hB nbd))
                  refine hK _ _ (But.more hB (by simp)) ?_
                  clear hK
                  intro hr
                  replace hx := hx.trans hr
                  clear hr
                  try simp only [Act.put, List.setIfInBounds_toArray, List.set_cons_zero, List.set_cons_succ]
                  refine wpT_store (List.getElem?_toArray.trans (by rfl)) rfl (by rfl) (fun K hK => ?_) ?_
                  · skip
                    have hcy := Ext.cell hy
                    have hfy := Ext.froz hy
                    (obtain ⟨_, _, _, _, kq'⟩ := hS.kq); have cq := kq'.cell; have fq := kq'.froz
                    go_simp
                    refine hK _ ?_ ?_
                    focus ((repeat (first | (with_reducible exact But.refl _ _) | assumption | (with_reducible refine But.drew ?_) | (with_reducible refine But.drewL ?_) | (with_reducible refine But.setCell ?_ ?_ _; rotate_left; (focus (simp; done))) | (with_reducible refine But.setCellL ?_ ?_; rotate_left; (focus (simp; done))) | (with_reducible refine But.alloc2 ?_ ?_; rotate_left; (focus (simp [World.setCell]; done))) | (with_reducible refine But.allocL ?_ ?_ ?_; rotate_left; (focus (simp; done)); (focus (simp; done))) | (with_reducible refine But.alloc ?_ _))); done)
                    clear hK
                    intro hr
                    replace hS := hS.store 1 x1
                    replace hx := hx.trans hr
                    clear hr
                    try simp only [Act.put, List.setIfInBounds_toArray, List.set_cons_zero, List.set_cons_succ]
                    first
                      | (refine wpT_takeB hx (v := ?_) (List.getElem?_toArray.trans (by rfl)) (by rfl) (fun _ hc => ?_) ?_
                         rotate_left
                         focus (go_simp; (try go_ints); exact rfl)
                         simp only [Act.put, List.setIfInBounds_toArray, List.set_cons_zero, List.set_cons_succ])
                      | (refine wpT_skip (List.getElem?_toArray.trans (by rfl)) (by rfl) ?_; simp only [Act.put, List.setIfInBounds_toArray, List.set_cons_zero, List.set_cons_succ])
                    refine wpT_store (List.getElem?_toArray.trans (by rfl)) rfl (by rfl) (fun K hK => ?_) ?_
                    · skip
                      have hcy := Ext.cell hy
                      have hfy := Ext.froz hy
                      (obtain ⟨_, _, _, _, kq'⟩ := hS.kq); have cq := kq'.cell; have fq := kq'.froz
                      go_simp
                      refine hK _ ?_ ?_
                      focus ((repeat (first | (with_reducible exact But.refl _ _) | assumption | (with_reducible refine But.drew ?_) | (with_reducible refine But.drewL ?_) | (with_reducible refine But.setCell ?_ ?_ _; rotate_left; (focus (simp; done))) | (with_reducible refine But.setCellL ?_ ?_; rotate_left; (focus (simp; done))) | (with_reducible refine But.alloc2 ?_ ?_; rotate_left; (focus (simp [World.setCell]; done))) | (with_reducible refine But.allocL ?_ ?_ ?_; rotate_left; (focus (simp; done)); (focus (simp; done))) | (with_reducible refine But.alloc ?_ _))); done)
                      clear hK
                      intro hr
                      replace hS := hS.store 2 x3
                      replace hx := hx.trans hr
                      clear hr
                      try simp only [Act.put, List.setIfInBounds_toArray, List.set_cons_zero, List.set_cons_succ]
                      refine wpT_done ?_
                      obtain ⟨f0, f1, f2, f3, kf⟩ := hS.kq
                      have cf := kf.cell
                      have cr := hS.kr.cell
                      have fr := hS.kr.froz
                      have hq3 := hS.hq
                      have nqr : q ≠ w.heap.size + 1 + 1 := by omega
                      have nrq : w.heap.size + 1 + 1 ≠ q := by omega
                      obtain ⟨e1, e2, e3⟩ := hS.fin (.int .i64 f0) (.int .i64 f1) (.int .i64 f2) (.int .i64 f3)
                      go_wp2
                      exact bodyPost_ret (v := .agg #[.int .i64 f0, .int .i64 f1, .int .i64 f2, .int .i64 f3]) (by simp [results, Try.results20, go_sem, e3]) rfl ⟨f0, f1, f2, f3, rfl, e1, e2⟩
                    exact wpT_none
                  exact wpT_none
                exact wpT_none
              exact wpT_none
            exact wpT_none
          exact wpT_none
        have z1 : (z == 1) = false := by simpa using c1
        by_cases c2 : z = 2
        · subst c2
          go_upto_region 17 with fail
          replace hS := hS.ext (Ext.drew (Ext.refl _))
          refine wp_region_treeB [d, q] (.take 0 (.take 2 (.alt 1 (.take 4 (.alt 3 (.alt 5 (.take 6 (.alt 7 .done .none)) .none) .none)) .none))) Try.mixed (by kernel_rfl) ?_
          intro hx hy
          first
            | (refine wpT_takeB hx (v := ?_) (List.getElem?_toArray.trans (by rfl)) (by rfl) (fun _ hc => ?_) ?_
               rotate_left
               focus (go_simp; (try go_ints); exact rfl)
               simp only [Act.put, List.setIfInBounds_toArray, List.set_cons_zero, List.set_cons_succ])
            | (refine wpT_skip (List.getElem?_toArray.trans (by rfl)) (by rfl) ?_; simp only [Act.put, List.setIfInBounds_toArray, List.set_cons_zero, List.set_cons_succ])
          first
            | (refine wpT_takeB hx (v := ?_) (List.getElem?_toArray.trans (by rfl)) (by rfl) (fun _ hc => ?_) ?_
               rotate_left
               focus (go_simp; (try go_ints); exact rfl)
               simp only [Act.put, List.setIfInBounds_toArray, List.set_cons_zero, List.set_cons_succ])
            | (refine wpT_skip (List.getElem?_toArray.trans (by rfl)) (by rfl) ?_; simp only [Act.put, List.setIfInBounds_toArray, List.set_cons_zero, List.set_cons_succ])
          refine wpT_call (List.getElem?_toArray.trans (by rfl)) (by rfl) (fun K hK => ?_) ?_
          · skip
            go_simp
            go_at_call 31
            refine (h31_any w.heap.size (w.heap.size + 1 + 1 + 1) d zl.length dd B zl _ hS.ku hS.kd hS.dk hS.rd (fun h0 ad ha => by have := (hS.hU h0 ad ha).1; omega) (by omega) (by omega) (by omega)).mono ?_
            rintro e w1 ⟨x1, rfl, hDk, hB⟩; replace hS := hS.next hDk hB
            refine hK _ _ (But.more hB (by simp)) ?_
            clear hK
            intro hr
            replace hx := hx.trans hr
            clear hr
            try simp only [Act.put, List.setIfInBounds_toArray, List.set_cons_zero, List.set_cons_succ]
            first
              | (refine wpT_takeB hx (v := ?_) (List.getElem?_toArray.trans (by rfl)) (by rfl) (fun _ hc => ?_) ?_
                 rotate_left
                 focus (go_simp; (try go_ints); exact rfl)
                 simp only [Act.put, List.setIfInBounds_toArray, List.set_cons_zero, List.set_cons_succ])
              | (refine wpT_skip (List.getElem?_toArray.trans (by rfl)) (by rfl) ?_; simp only [Act.put, List.setIfInBounds_toArray, List.set_cons_zero, List.set_cons_succ])
            refine wpT_call (List.getElem?_toArray.trans (by rfl)) (by rfl) (fun K hK => ?_) ?_
            · skip
              go_simp
              go_at_call 26
              refine (next_any d _ _ hS.dk (by omega) (by omega)).mono ?_
              rintro e w1 ⟨x2, rfl, hy0, hy1, hDk, hB⟩; replace hS := hS.next hDk hB
              refine hK _ _ (But.more hB (by simp)) ?_
              clear hK
              intro hr
              replace hx := hx.trans hr
              clear hr
              try simp only [Act.put, List.setIfInBounds_toArray, List.set_cons_zero, List.set_cons_succ]
              refine wpT_store (List.getElem?_toArray.trans (by rfl)) rfl (by rfl) (fun K hK => ?_) ?_
              · skip
                have hcy := Ext.cell hy
                have hfy := Ext.froz hy
                (obtain ⟨_, _, _, _, kq'⟩ := hS.kq); have cq := kq'.cell; have fq := kq'.froz
                go_simp
                refine hK _ ?_ ?_
                focus ((repeat (first | (with_reducible exact But.refl _ _) | assumption | (with_reducible refine But.drew ?_) | (with_reducible refine But.drewL ?_) | (with_reducible refine But.setCell ?_ ?_ _; rotate_left; (focus (simp; done))) | (with_reducible refine But.setCellL ?_ ?_; rotate_left; (focus (simp; done))) | (with_reducible refine But.alloc2 ?_ ?_; rotate_left; (focus (simp [World.setCell]; done))) | (with_reducible refine But.allocL ?_ ?_ ?_; rotate_left; (focus (simp; done)); (focus (simp; done))) | (with_reducible refine But.alloc ?_ _))); done)
                clear hK
                intro hr
                replace hS := hS.store 1 x1
                replace hx := hx.trans hr
                clear hr
                try simp only [Act.put, List.setIfInBounds_toArray, List.set_cons_zero, List.set_cons_succ]
                first
                  | (refine wpT_takeB hx (v := ?_) (List.getElem?_toArray.trans (by rfl)) (by rfl) (fun _ hc => ?_) ?_
                     rotate_left
                     focus (go_simp; (try go_ints); exact rfl)
                     simp only [Act.put, List.setIfInBounds_toArray, List.set_cons_zero, List.set_cons_succ])
                  | (refine wpT_skip (List.getElem?_toArray.trans (by rfl)) (by rfl) ?_; simp only [Act.put, List.setIfInBounds_toArray, List.set_cons_zero, List.set_cons_succ])
                refine wpT_store (List.getElem?_toArray.trans (by rfl)) rfl (by rfl) (fun K hK => ?_) ?_
                · skip
                  have hcy := Ext.cell hy
                  have hfy := Ext.froz hy
                  (obtain ⟨_, _, _, _, kq'⟩ := hS.kq); have cq := kq'.cell; have fq := kq'.froz
                  go_simp
                  refine hK _ ?_ ?_
                  focus ((repeat (first | (with_reducible exact But.refl _ _) | assumption | (with_reducible refine But.drew ?_) | (with_reducible refine But.drewL ?_) | (with_reducible refine But.setCell ?_ ?_ _; rotate_left; (focus (simp; done))) | (with_reducible refine But.setCellL ?_ ?_; rotate_left; (focus (simp; done))) | (with_reducible refine But.alloc2 ?_ ?_; rotate_left; (focus (simp [World.setCell]; done))) | (with_reducible refine But.allocL ?_ ?_ ?_; rotate_left; (focus (simp; done)); (focus (simp; done))) | (with_reducible refine But.alloc ?_ _))); done)
                  clear hK
                  intro hr
                  replace hS := hS.store 2 x2
                  replace hx := hx.trans hr
                  clear hr
                  try simp only [Act.put, List.setIfInBounds_toArray, List.set_cons_zero, List.set_cons_succ]
                  refine wpT_done ?_
                  obtain ⟨f0, f1, f2, f3, kf⟩ := hS.kq
                  have cf := kf.cell
                  have cr := hS.kr.cell
                  have fr := hS.kr.froz
                  have hq3 := hS.hq
                  have nqr : q ≠ w.heap.size + 1 + 1 := by omega
                  have nrq : w.heap.size + 1 + 1 ≠ q := by omega
                  obtain ⟨e1, e2, e3⟩ := hS.fin (.int .i64 f0) (.int .i64 f1) (.int .i64 f2) (.int .i64 f3)
                  go_wp2
                  exact bodyPost_ret (v := .agg #[.int .i64 f0, .int .i64 f1, .int .i64 f2, .int .i64 f3]) (by simp [results, Try.results20, go_sem, e3]) rfl ⟨f0, f1, f2, f3, rfl, e1, e2⟩
                exact wpT_none
              exact wpT_none
            exact wpT_none
          exact wpT_none
        have z2 : (z == 2) = false := by simpa using c2
        by_cases c4 : z = 4
        · subst c4
          go_upto_region 17 with fail
          replace hS := hS.ext (Ext.drew (Ext.refl _))
          refine wp_region_treeB [d, q] (.take 0 (.take 2 (.alt 1 (.take 4 (.alt 3 (.alt 5 (.take 6 (.alt 7 .done .none)) .none) .none)) .none))) Try.mixed (by kernel_rfl) ?_
          intro hx hy
          first
            | (refine wpT_takeB hx (v := ?_) (List.getElem?_toArray.trans (by rfl)) (by rfl) (fun _ hc => ?_) ?_
               rotate_left
               focus (go_simp; (try go_ints); exact rfl)
               simp only [Act.put, List.setIfInBounds_toArray, List.set_cons_zero, List.set_cons_succ])
            | (refine wpT_skip (List.getElem?_toArray.trans (by rfl)) (by rfl) ?_; simp only [Act.put, List.setIfInBounds_toArray, List.set_cons_zero, List.set_cons_succ])
          first
            | (refine wpT_takeB hx (v := ?_) (List.getElem?_toArray.trans (by rfl)) (by rfl) (fun _ hc => ?_) ?_
               rotate_left
               focus (go_simp; (try go_ints); exact rfl)
               simp only [Act.put, List.setIfInBounds_toArray, List.set_cons_zero, List.set_cons_succ])
            | (refine wpT_skip (List.getElem?_toArray.trans (by rfl)) (by rfl) ?_; simp only [Act.put, List.setIfInBounds_toArray, List.set_cons_zero, List.set_cons_succ])
          refine wpT_call (List.getElem?_toArray.trans (by rfl)) (by rfl) (fun K hK => ?_) ?_
          · skip
            go_simp
            go_at_call 31
            refine (h31_any w.heap.size (w.heap.size + 1 + 1 + 1) d zl.length dd B zl _ hS.ku hS.kd hS.dk hS.rd (fun h0 ad ha => by have := (hS.hU h0 ad ha).1; omega) (by omega) (by omega) (by omega)).mono ?_
            rintro e w1 ⟨x1, rfl, hDk, hB⟩; replace hS := hS.next hDk hB
            refine hK _ _ (But.more hB (by simp)) ?_
            clear hK
            intro hr
            replace hx := hx.trans hr
            clear hr
            try simp only [Act.put, List.setIfInBounds_toArray, List.set_cons_zero, List.set_cons_succ]
            first
              | (refine wpT_takeB hx (v := ?_) (List.getElem?_toArray.trans (by rfl)) (by rfl) (fun _ hc => ?_) ?_
                 rotate_left
                 focus (go_simp; (try go_ints); exact rfl)
                 simp only [Act.put, List.setIfInBounds_toArray, List.set_cons_zero, List.set_cons_succ])
              | (refine wpT_skip (List.getElem?_toArray.trans (by rfl)) (by rfl) ?_; simp only [Act.put, List.setIfInBounds_toArray, List.set_cons_zero, List.set_cons_succ])
            refine wpT_call (List.getElem?_toArray.trans (by rfl)) (by rfl) (fun K hK => ?_) ?_
            · skip
              go_simp
              go_at_call 26
              refine (next_any d _ _ hS.dk (by omega) (by omega)).mono ?_
              rintro e w1 ⟨x2, rfl, hy0, hy1, hDk, hB⟩; replace hS := hS.next hDk hB
              refine hK _ _ (But.more hB (by simp)) ?_
              clear hK
              intro hr
              replace hx := hx.trans hr
              clear hr
              try simp only [Act.put, List.setIfInBounds_toArray, List.set_cons_zero, List.set_cons_succ]
              refine wpT_store (List.getElem?_toArray.trans (by rfl)) rfl (by rfl) (fun K hK => ?_) ?_
              · skip
                have hcy := Ext.cell hy
                have hfy := Ext.froz hy
                (obtain ⟨_, _, _, _, kq'⟩ := hS.kq); have cq := kq'.cell; have fq := kq'.froz
                go_simp
                refine hK _ ?_ ?_
                focus ((repeat (first | (with_reducible exact But.refl _ _) | assumption | (with_reducible refine But.drew ?_) | (with_reducible refine But.drewL ?_) | (with_reducible refine But.setCell ?_ ?_ _; rotate_left; (focus (simp; done))) | (with_reducible refine But.setCellL ?_ ?_; rotate_left; (focus (simp; done))) | (with_reducible refine But.alloc2 ?_ ?_; rotate_left; (focus (simp [World.setCell]; done))) | (with_reducible refine But.allocL ?_ ?_ ?_; rotate_left; (focus (simp; done)); (focus (simp; done))) | (with_reducible refine But.alloc ?_ _))); done)
                clear hK
                intro hr
                replace hS := hS.store 1 x1
                replace hx := hx.trans hr
                clear hr
                try simp only [Act.put, List.setIfInBounds_toArray, List.set_cons_zero, List.set_cons_succ]
                first
                  | (refine wpT_takeB hx (v := ?_) (List.getElem?_toArray.trans (by rfl)) (by rfl) (fun _ hc => ?_) ?_
                     rotate_left
                     focus (go_simp; (try go_ints); exact rfl)
                     simp only [Act.put, List.setIfInBounds_toArray, List.set_cons_zero, List.set_cons_succ])
                  | (refine wpT_skip (List.getElem?_toArray.trans (by rfl)) (by rfl) ?_; simp only [Act.put, List.setIfInBounds_toArray, List.set_cons_zero, List.set_cons_succ])
                refine wpT_store (List.getElem?_toArray.trans (by rfl)) rfl (by rfl) (fun K hK => ?_) ?_
                · skip
                  have hcy := Ext.cell hy
                  have hfy := Ext.froz hy
                  (obtain ⟨_, _, _, _, kq'⟩ := hS.kq); have cq := kq'.cell; have fq := kq'.froz
                  go_simp
                  refine hK _ ?_ ?_
                  focus ((repeat (first | (with_reducible exact But.refl _ _) | assumption | (with_reducible refine But.drew ?_) | (with_reducible refine But.drewL ?_) | (with_reducible refine But.setCell ?_ ?_ _; rotate_left; (focus (simp; done))) | (with_reducible refine But.setCellL ?_ ?_; rotate_left; (focus (simp; done))) | (with_reducible refine But.alloc2 ?_ ?_; rotate_left; (focus (simp [World.setCell]; done))) | (with_reducible refine But.allocL ?_ ?_ ?_; rotate_left; (focus (simp; done)); (focus (simp; done))) | (with_reducible refine But.alloc ?_ _))); done)
                  clear hK
                  intro hr
                  replace hS := hS.store 2 x2
                  replace hx := hx.trans hr
                  clear hr
                  try simp only [Act.put, List.setIfInBounds_toArray, List.set_cons_zero, List.set_cons_succ]
                  refine wpT_done ?_
                  obtain ⟨f0, f1, f2, f3, kf⟩ := hS.kq
                  have cf := kf.cell
                  have cr := hS.kr.cell
                  have fr := hS.kr.froz
                  have hq3 := hS.hq
                  have nqr : q ≠ w.heap.size + 1 + 1 := by omega
                  have nrq : w.heap.size + 1 + 1 ≠ q := by omega
                  obtain ⟨e1, e2, e3⟩ := hS.fin (.int .i64 f0) (.int .i64 f1) (.int .i64 f2) (.int .i64 f3)
                  go_wp2
                  exact bodyPost_ret (v := .agg #[.int .i64 f0, .int .i64 f1, .int .i64 f2, .int .i64 f3]) (by simp [results, Try.results20, go_sem, e3]) rfl ⟨f0, f1, f2, f3, rfl, e1, e2⟩
                exact wpT_none
              exact wpT_none
            exact wpT_none
          exact wpT_none
        have z4 : (z == 4) = false := by simpa using c4
        by_cases c3 : z = 3
        · subst c3
          go_upto_region 19 with fail
          replace hS := hS.ext (Ext.drew (Ext.refl _))
          refine wp_region_treeB [d, q] (.take 0 (.take 2 (.take 4 (.alt 1 (.take 6 (.alt 3 (.alt 5 (.alt 7 (.take 8 (.alt 9 (.take 10 (.alt 11 .done .none)) .none)) .none) .none) .none)) .none)))) Try.mixed (by kernel_rfl) ?_
          intro hx hy
          first
            | (refine wpT_takeB hx (v := ?_) (List.getElem?_toArray.trans (by rfl)) (by rfl) (fun _ hc => ?_) ?_
               rotate_left
               focus (go_simp; (try go_ints); exact rfl)
               simp only [Act.put, List.setIfInBounds_toArray, List.set_cons_zero, List.set_cons_succ])
            | (refine wpT_skip (List.getElem?_toArray.trans (by rfl)) (by rfl) ?_; simp only [Act.put, List.setIfInBounds_toArray, List.set_cons_zero, List.set_cons_succ])
          first
            | (refine wpT_takeB hx (v := ?_) (List.getElem?_toArray.trans (by rfl)) (by rfl) (fun _ hc => ?_) ?_
               rotate_left
               focus (go_simp; (try go_ints); exact rfl)
               simp only [Act.put, List.setIfInBounds_toArray, List.set_cons_zero, List.set_cons_succ])
            | (refine wpT_skip (List.getElem?_toArray.trans (by rfl)) (by rfl) ?_; simp only [Act.put, List.setIfInBounds_toArray, List.set_cons_zero, List.set_cons_succ])
          first
            | (refine wpT_takeB hx (v := ?_) (List.getElem?_toArray.trans (by rfl)) (by rfl) (fun _ hc => ?_) ?_
               rotate_left
               focus (go_simp; (try go_ints); exact rfl)
               simp only [Act.put, List.setIfInBounds_toArray, List.set_cons_zero, List.set_cons_succ])
            | (refine wpT_skip (List.getElem?_toArray.trans (by rfl)) (by rfl) ?_; simp only [Act.put, List.setIfInBounds_toArray, List.set_cons_zero, List.set_cons_succ])
          refine wpT_call (List.getElem?_toArray.trans (by rfl)) (by rfl) (fun K hK => ?_) ?_
          · skip
            go_simp
            go_at_call 31
            refine (h31_any w.heap.size (w.heap.size + 1 + 1 + 1) d zl.length dd B zl _ hS.ku hS.kd hS.dk hS.rd (fun h0 ad ha => by have := (hS.hU h0 ad ha).1; omega) (by omega) (by omega) (by omega)).mono ?_
            rintro e w1 ⟨x1, rfl, hDk, hB⟩; replace hS := hS.next hDk hB
            refine hK _ _ (But.more hB (by simp)) ?_
            clear hK
            intro hr
            replace hx := hx.trans hr
            clear hr
            try simp only [Act.put, List.setIfInBounds_toArray, List.set_cons_zero, List.set_cons_succ]
            first
              | (refine wpT_takeB hx (v := ?_) (List.getElem?_toArray.trans (by rfl)) (by rfl) (fun _ hc => ?_) ?_
                 rotate_left
                 focus (go_simp; (try go_ints); exact rfl)
                 simp only [Act.put, List.setIfInBounds_toArray, List.set_cons_zero, List.set_cons_succ])
              | (refine wpT_skip (List.getElem?_toArray.trans (by rfl)) (by rfl) ?_; simp only [Act.put, List.setIfInBounds_toArray, List.set_cons_zero, List.set_cons_succ])
            refine wpT_call (List.getElem?_toArray.trans (by rfl)) (by rfl) (fun K hK => ?_) ?_
            · skip
              go_simp
              go_at_call 26
              refine (next_any d _ _ hS.dk (by omega) (by omega)).mono ?_
              rintro e w1 ⟨x2, rfl, hy0, hy1, hDk, hB⟩; replace hS := hS.next hDk hB
              refine hK _ _ (But.more hB (by simp)) ?_
              clear hK
              intro hr
              replace hx := hx.trans hr
              clear hr
              try simp only [Act.put, List.setIfInBounds_toArray, List.set_cons_zero, List.set_cons_succ]
              refine wpT_call (List.getElem?_toArray.trans (by rfl)) (by rfl) (fun K hK => ?_) ?_
              · skip
                go_simp
                go_at_call 31
                refine (h31_any w.heap.size (w.heap.size + 1 + 1 + 1) d zl.length dd B zl _ hS.ku hS.kd hS.dk hS.rd (fun h0 ad ha => by have := (hS.hU h0 ad ha).1; omega) (by omega) (by omega) (by omega)).mono ?_
                rintro e w1 ⟨x3, rfl, hDk, hB⟩; replace hS := hS.next hDk hB
                refine hK _ _ (But.more hB (by simp)) ?_
                clear hK
                intro hr
                replace hx := hx.trans hr
                clear hr
                try simp only [Act.put, List.setIfInBounds_toArray, List.set_cons_zero, List.set_cons_succ]
                refine wpT_store (List.getElem?_toArray.trans (by rfl)) rfl (by rfl) (fun K hK => ?_) ?_
                · skip
                  have hcy := Ext.cell hy
                  have hfy := Ext.froz hy
                  (obtain ⟨_, _, _, _, kq'⟩ := hS.kq); have cq := kq'.cell; have fq := kq'.froz
                  go_simp
                  refine hK _ ?_ ?_
                  focus ((repeat (first | (with_reducible exact But.refl _ _) | assumption | (with_reducible refine But.drew ?_) | (with_reducible refine But.drewL ?_) | (with_reducible refine But.setCell ?_ ?_ _; rotate_left; (focus (simp; done))) | (with_reducible refine But.setCellL ?_ ?_; rotate_left; (focus (simp; done))) | (with_reducible refine But.alloc2 ?_ ?_; rotate_left; (focus (simp [World.setCell]; done))) | (with_reducible refine But.allocL ?_ ?_ ?_; rotate_left; (focus (simp; done)); (focus (simp; done))) | (with_reducible refine But.alloc ?_ _))); done)
                  clear hK
                  intro hr
                  replace hS := hS.store 1 x1
                  replace hx := hx.trans hr
                  clear hr
                  try simp only [Act.put, List.setIfInBounds_toArray, List.set_cons_zero, List.set_cons_succ]
                  first
                    | (refine wpT_takeB hx (v := ?_) (List.getElem?_toArray.trans (by rfl)) (by rfl) (fun _ hc => ?_) ?_
                       rotate_left
                       focus (go_simp; (try go_ints); exact rfl)
                       simp only [Act.put, List.setIfInBounds_toArray, List.set_cons_zero, List.set_cons_succ])
                    | (refine wpT_skip (List.getElem?_toArray.trans (by rfl)) (by rfl) ?_; simp only [Act.put, List.setIfInBounds_toArray, List.set_cons_zero, List.set_cons_succ])
                  refine wpT_store (List.getElem?_toArray.trans (by rfl)) rfl (by rfl) (fun K hK => ?_) ?_
                  · skip
                    have hcy := Ext.cell hy
                    have hfy := Ext.froz hy
                    (obtain ⟨_, _, _, _, kq'⟩ := hS.kq); have cq := kq'.cell; have fq := kq'.froz
                    go_simp
                    refine hK _ ?_ ?_
                    focus ((repeat (first | (with_reducible exact But.refl _ _) | assumption | (with_reducible refine But.drew ?_) | (with_reducible refine But.drewL ?_) | (with_reducible refine But.setCell ?_ ?_ _; rotate_left; (focus (simp; done))) | (with_reducible refine But.setCellL ?_ ?_; rotate_left; (focus (simp; done))) | (with_reducible refine But.alloc2 ?_ ?_; rotate_left; (focus (simp [World.setCell]; done))) | (with_reducible refine But.allocL ?_ ?_ ?_; rotate_left; (focus (simp; done)); (focus (simp; done))) | (with_reducible refine But.alloc ?_ _))); done)
                    clear hK
                    intro hr
                    replace hS := hS.store 2 x2
                    replace hx := hx.trans hr
                    clear hr
                    try simp only [Act.put, List.setIfInBounds_toArray, List.set_cons_zero, List.set_cons_succ]
                    first
                      | (refine wpT_takeB hx (v := ?_) (List.getElem?_toArray.trans (by rfl)) (by rfl) (fun _ hc => ?_) ?_
                         rotate_left
                         focus (go_simp; (try go_ints); exact rfl)
                         simp only [Act.put, List.setIfInBounds_toArray, List.set_cons_zero, List.set_cons_succ])
                      | (refine wpT_skip (List.getElem?_toArray.trans (by rfl)) (by rfl) ?_; simp only [Act.put, List.setIfInBounds_toArray, List.set_cons_zero, List.set_cons_succ])
                    refine wpT_store (List.getElem?_toArray.trans (by rfl)) rfl (by rfl) (fun K hK => ?_) ?_
                    · skip
                      have hcy := Ext.cell hy
                      have hfy := Ext.froz hy
                      (obtain ⟨_, _, _, _, kq'⟩ := hS.kq); have cq := kq'.cell; have fq := kq'.froz
                      go_simp
                      refine hK _ ?_ ?_
                      focus ((repeat (first | (with_reducible exact But.refl _ _) | assumption | (with_reducible refine But.drew ?_) | (with_reducible refine But.drewL ?_) | (with_reducible refine But.setCell ?_ ?_ _; rotate_left; (focus (simp; done))) | (with_reducible refine But.setCellL ?_ ?_; rotate_left; (focus (simp; done))) | (with_reducible refine But.alloc2 ?_ ?_; rotate_left; (focus (simp [World.setCell]; done))) | (with_reducible refine But.allocL ?_ ?_ ?_; rotate_left; (focus (simp; done)); (focus (simp; done))) | (with_reducible refine But.alloc ?_ _))); done)
                      clear hK
                      intro hr
                      replace hS := hS.store 3 x3
                      replace hx := hx.trans hr
                      clear hr
                      try simp only [Act.put, List.setIfInBounds_toArray, List.set_cons_zero, List.set_cons_succ]
                      refine wpT_done ?_
                      obtain ⟨f0, f1, f2, f3, kf⟩ := hS.kq
                      have cf := kf.cell
                      have cr := hS.kr.cell
                      have fr := hS.kr.froz
                      have hq3 := hS.hq
                      have nqr : q ≠ w.heap.size + 1 + 1 := by omega
                      have nrq : w.heap.size + 1 + 1 ≠ q := by omega
                      obtain ⟨e1, e2, e3⟩ := hS.fin (.int .i64 f0) (.int .i64 f1) (.int .i64 f2) (.int .i64 f3)
                      go_wp2
                      exact bodyPost_ret (v := .agg #[.int .i64 f0, .int .i64 f1, .int .i64 f2, .int .i64 f3]) (by simp [results, Try.results20, go_sem, e3]) rfl ⟨f0, f1, f2, f3, rfl, e1, e2⟩
                    exact wpT_none
                  exact wpT_none
                exact wpT_none
              exact wpT_none
            exact wpT_none
          exact wpT_none
        have z3 : (z == 3) = false := by simpa using c3
        by_cases c5 : z = 5
        · subst c5
          go_upto_region 21 with fail
          replace hS := hS.ext (Ext.drew (Ext.refl _))
          refine wp_region_treeB [d, q] (.take 0 (.take 2 (.take 4 (.alt 1 (.take 6 (.alt 3 (.alt 5 (.alt 7 (.take 8 (.alt 9 (.take 10 (.alt 11 .done .none)) .none)) .none) .none) .none)) .none)))) Try.mixed (by kernel_rfl) ?_
          intro hx hy
          first
            | (refine wpT_takeB hx (v := ?_) (List.getElem?_toArray.trans (by rfl)) (by rfl) (fun _ hc => ?_) ?_
               rotate_left
               focus (go_simp; (try go_ints); exact rfl)
               simp only [Act.put, List.setIfInBounds_toArray, List.set_cons_zero, List.set_cons_succ])
            | (refine wpT_skip (List.getElem?_toArray.trans (by rfl)) (by rfl) ?_; simp only [Act.put, List.setIfInBounds_toArray, List.set_cons_zero, List.set_cons_succ])
          first
            | (refine wpT_takeB hx (v := ?_) (List.getElem?_toArray.trans (by rfl)) (by rfl) (fun _ hc => ?_) ?_
               rotate_left
               focus (go_simp; (try go_ints); exact rfl)
               simp only [Act.put, List.setIfInBounds_toArray, List.set_cons_zero, List.set_cons_succ])
            | (refine wpT_skip (List.getElem?_toArray.trans (by rfl)) (by rfl) ?_; simp only [Act.put, List.setIfInBounds_toArray, List.set_cons_zero, List.set_cons_succ])
          first
            | (refine wpT_takeB hx (v := ?_) (List.getElem?_toArray.trans (by rfl)) (by rfl) (fun _ hc => ?_) ?_
               rotate_left
               focus (go_simp; (try go_ints); exact rfl)
               simp only [Act.put, List.setIfInBounds_toArray, List.set_cons_zero, List.set_cons_succ])
            | (refine wpT_skip (List.getElem?_toArray.trans (by rfl)) (by rfl) ?_; simp only [Act.put, List.setIfInBounds_toArray, List.set_cons_zero, List.set_cons_succ])
          refine wpT_call (List.getElem?_toArray.trans (by rfl)) (by rfl) (fun K hK => ?_) ?_
          · skip
            go_simp
            go_at_call 31
            refine (h31_any w.heap.size (w.heap.size + 1 + 1 + 1) d zl.length dd B zl _ hS.ku hS.kd hS.dk hS.rd (fun h0 ad ha => by have := (hS.hU h0 ad ha).1; omega) (by omega) (by omega) (by omega)).mono ?_
            rintro e w1 ⟨x1, rfl, hDk, hB⟩; replace hS := hS.next hDk hB
            refine hK _ _ (But.more hB (by simp)) ?_
            clear hK
            intro hr
            replace hx := hx.trans hr
            clear hr
            try simp only [Act.put, List.setIfInBounds_toArray, List.set_cons_zero, List.set_cons_succ]
            first
              | (refine wpT_takeB hx (v := ?_) (List.getElem?_toArray.trans (by rfl)) (by rfl) (fun _ hc => ?_) ?_
                 rotate_left
                 focus (go_simp; (try go_ints); exact rfl)
                 simp only [Act.put, List.setIfInBounds_toArray, List.set_cons_zero, List.set_cons_succ])
              | (refine wpT_skip (List.getElem?_toArray.trans (by rfl)) (by rfl) ?_; simp only [Act.put, List.setIfInBounds_toArray, List.set_cons_zero, List.set_cons_succ])
            refine wpT_call (List.getElem?_toArray.trans (by rfl)) (by rfl) (fun K hK => ?_) ?_
            · skip
              go_simp
              go_at_call 26
              refine (next_any d _ _ hS.dk (by omega) (by omega)).mono ?_
              rintro e w1 ⟨x2, rfl, hy0, hy1, hDk, hB⟩; replace hS := hS.next hDk hB
              refine hK _ _ (But.more hB (by simp)) ?_
              clear hK
              intro hr
              replace hx := hx.trans hr
              clear hr
              try simp only [Act.put, List.setIfInBounds_toArray, List.set_cons_zero, List.set_cons_succ]
              refine wpT_call (List.getElem?_toArray.trans (by rfl)) (by rfl) (fun K hK => ?_) ?_
              · skip
                go_simp
                go_at_call 26
                refine (next_any d _ _ hS.dk (by omega) (by omega)).mono ?_
                rintro e w1 ⟨x3, rfl, hy0, hy1, hDk, hB⟩; replace hS := hS.next hDk hB
                refine hK _ _ (But.more hB (by simp)) ?_
                clear hK
                intro hr
                replace hx := hx.trans hr
                clear hr
                try simp only [Act.put, List.setIfInBounds_toArray, List.set_cons_zero, List.set_cons_succ]
                refine wpT_store (List.getElem?_toArray.trans (by rfl)) rfl (by rfl) (fun K hK => ?_) ?_
                · skip
                  have hcy := Ext.cell hy
                  have hfy := Ext.froz hy
                  (obtain ⟨_, _, _, _, kq'⟩ := hS.kq); have cq := kq'.cell; have fq := kq'.froz
                  go_simp
                  refine hK _ ?_ ?_
                  focus ((repeat (first | (with_reducible exact But.refl _ _) | assumption | (with_reducible refine But.drew ?_) | (with_reducible refine But.drewL ?_) | (with_reducible refine But.setCell ?_ ?_ _; rotate_left; (focus (simp; done))) | (with_reducible refine But.setCellL ?_ ?_; rotate_left; (focus (simp; done))) | (with_reducible refine But.alloc2 ?_ ?_; rotate_left; (focus (simp [World.setCell]; done))) | (with_reducible refine But.allocL ?_ ?_ ?_; rotate_left; (focus (simp; done)); (focus (simp; done))) | (with_reducible refine But.alloc ?_ _))); done)
                  clear hK
                  intro hr
                  replace hS := hS.store 1 x1
                  replace hx := hx.trans hr
                  clear hr
                  try simp only [Act.put, List.setIfInBounds_toArray, List.set_cons_zero, List.set_cons_succ]
                  first
                    | (refine wpT_takeB hx (v := ?_) (List.getElem?_toArray.trans (by rfl)) (by rfl) (fun _ hc => ?_) ?_
                       rotate_left
                       focus (go_simp; (try go_ints); exact rfl)
                       simp only [Act.put, List.setIfInBounds_toArray, List.set_cons_zero, List.set_cons_succ])
                    | (refine wpT_skip (List.getElem?_toArray.trans (by rfl)) (by rfl) ?_; simp only [Act.put, List.setIfInBounds_toArray, List.set_cons_zero, List.set_cons_succ])
                  refine wpT_store (List.getElem?_toArray.trans (by rfl)) rfl (by rfl) (fun K hK => ?_) ?_
                  · skip
                    have hcy := Ext.cell hy
                    have hfy := Ext.froz hy
                    (obtain ⟨_, _, _, _, kq'⟩ := hS.kq); have cq := kq'.cell; have fq := kq'.froz
                    go_simp
                    refine hK _ ?_ ?_
                    focus ((repeat (first | (with_reducible exact But.refl _ _) | assumption | (with_reducible refine But.drew ?_) | (with_reducible refine But.drewL ?_) | (with_reducible refine But.setCell ?_ ?_ _; rotate_left; (focus (simp; done))) | (with_reducible refine But.setCellL ?_ ?_; rotate_left; (focus (simp; done))) | (with_reducible refine But.alloc2 ?_ ?_; rotate_left; (focus (simp [World.setCell]; done))) | (with_reducible refine But.allocL ?_ ?_ ?_; rotate_left; (focus (simp; done)); (focus (simp; done))) | (with_reducible refine But.alloc ?_ _))); done)
                    clear hK
                    intro hr
                    replace hS := hS.store 2 x2
                    replace hx := hx.trans hr
                    clear hr
                    try simp only [Act.put, List.setIfInBounds_toArray, List.set_cons_zero, List.set_cons_succ]
                    first
                      | (refine wpT_takeB hx (v := ?_) (List.getElem?_toArray.trans (by rfl)) (by rfl) (fun _ hc => ?_) ?_
                         rotate_left
                         focus (go_simp; (try go_ints); exact rfl)
                         simp only [Act.put, List.setIfInBounds_toArray, List.set_cons_zero, List.set_cons_succ])
                      | (refine wpT_skip (List.getElem?_toArray.trans (by rfl)) (by rfl) ?_; simp only [Act.put, List.setIfInBounds_toArray, List.set_cons_zero, List.set_cons_succ])
                    refine wpT_store (List.getElem?_toArray.trans (by rfl)) rfl (by rfl) (fun K hK => ?_) ?_
                    · skip
                      have hcy := Ext.cell hy
                      have hfy := Ext.froz hy
                      (obtain ⟨_, _, _, _, kq'⟩ := hS.kq); have cq := kq'.cell; have fq := kq'.froz
                      go_simp
                      refine hK _ ?_ ?_
                      focus ((repeat (first | (with_reducible exact But.refl _ _) | assumption | (with_reducible refine But.drew ?_) | (with_reducible refine But.drewL ?_) | (with_reducible refine But.setCell ?_ ?_ _; rotate_left; (focus (simp; done))) | (with_reducible refine But.setCellL ?_ ?_; rotate_left; (focus (simp; done))) | (with_reducible refine But.alloc2 ?_ ?_; rotate_left; (focus (simp [World.setCell]; done))) | (with_reducible refine But.allocL ?_ ?_ ?_; rotate_left; (focus (simp; done)); (focus (simp; done))) | (with_reducible refine But.alloc ?_ _))); done)
                      clear hK
                      intro hr
                      replace hS := hS.store 3 x3
                      replace hx := hx.trans hr
                      clear hr
                      try simp only [Act.put, List.setIfInBounds_toArray, List.set_cons_zero, List.set_cons_succ]
                      refine wpT_done ?_
                      obtain ⟨f0, f1, f2, f3, kf⟩ := hS.kq
                      have cf := kf.cell
                      have cr := hS.kr.cell
                      have fr := hS.kr.froz
                      have hq3 := hS.hq
                      have nqr : q ≠ w.heap.size + 1 + 1 := by omega
                      have nrq : w.heap.size + 1 + 1 ≠ q := by omega
                      obtain ⟨e1, e2, e3⟩ := hS.fin (.int .i64 f0) (.int .i64 f1) (.int .i64 f2) (.int .i64 f3)
                      go_wp2
                      exact bodyPost_ret (v := .agg #[.int .i64 f0, .int .i64 f1, .int .i64 f2, .int .i64 f3]) (by simp [results, Try.results20, go_sem, e3]) rfl ⟨f0, f1, f2, f3, rfl, e1, e2⟩
                    exact wpT_none
                  exact wpT_none
                exact wpT_none
              exact wpT_none
            exact wpT_none
          exact wpT_none
        have z5 : (z == 5) = false := by simpa using c5
        by_cases c6 : z = 6
        · subst c6
          have one : True := trivial
          go_upto_region 27 with (first | (go_at_call 31; refine (h31_any w.heap.size (w.heap.size + 1 + 1 + 1) d zl.length dd B zl _ hS.ku hS.kd hS.dk hS.rd (fun h0 ad ha => by have := (hS.hU h0 ad ha).1; omega) (by omega) (by omega) (by omega)).mono ?_; rintro e w1 ⟨x1, rfl, hDk, hB⟩; replace hS := hS.next hDk hB; (obtain ⟨_, _, _, _, kq'⟩ := hS.kq); have cq := kq'.cell; have fq := kq'.froz; (first | (clear one; obtain ⟨xa, rfl⟩ : ∃ y, y = x1 := ⟨_, rfl⟩) | (obtain ⟨xb, rfl⟩ : ∃ y, y = x1 := ⟨_, rfl⟩))))
          replace hS := (hS.store 1 xa).store 2 xb
          obtain ⟨f0, f1, f2, f3, kf⟩ := hS.kq
          have cf := kf.cell
          have cr := hS.kr.cell
          have fr := hS.kr.froz
          have hq3 := hS.hq
          have nqr : q ≠ w.heap.size + 1 + 1 := by omega
          have nrq : w.heap.size + 1 + 1 ≠ q := by omega
          obtain ⟨e1, e2, e3⟩ := hS.fin (.int .i64 f0) (.int .i64 f1) (.int .i64 f2) (.int .i64 f3)
          go_wp2
          exact bodyPost_ret (v := .agg #[.int .i64 f0, .int .i64 f1, .int .i64 f2, .int .i64 f3]) (by simp [results, Try.results20, go_sem, e3]) rfl ⟨f0, f1, f2, f3, rfl, e1, e2⟩
        have z6 : (z == 6) = false := by simpa using c6
        by_cases c7 : z = 7
        · subst c7
          have one : True := trivial
          go_upto_region 27 with (first | (go_at_call 31; refine (h31_any w.heap.size (w.heap.size + 1 + 1 + 1) d zl.length dd B zl _ hS.ku hS.kd hS.dk hS.rd (fun h0 ad ha => by have := (hS.hU h0 ad ha).1; omega) (by omega) (by omega) (by omega)).mono ?_; rintro e w1 ⟨x1, rfl, hDk, hB⟩; replace hS := hS.next hDk hB; (obtain ⟨_, _, _, _, kq'⟩ := hS.kq); have cq := kq'.cell; have fq := kq'.froz; (first | (clear one; obtain ⟨xa, rfl⟩ : ∃ y, y = x1 := ⟨_, rfl⟩) | (obtain ⟨xb, rfl⟩ : ∃ y, y = x1 := ⟨_, rfl⟩))))
          replace hS := hS.store 1 xa
          obtain ⟨f0, f1, f2, f3, kf⟩ := hS.kq
          have cf := kf.cell
          have cr := hS.kr.cell
          have fr := hS.kr.froz
          have hq3 := hS.hq
          have nqr : q ≠ w.heap.size + 1 + 1 := by omega
          have nrq : w.heap.size + 1 + 1 ≠ q := by omega
          obtain ⟨e1, e2, e3⟩ := hS.fin (.int .i64 f0) (.int .i64 f1) (.int .i64 f2) (.int .i64 f3)
          go_wp2
          exact bodyPost_ret (v := .agg #[.int .i64 f0, .int .i64 f1, .int .i64 f2, .int .i64 f3]) (by simp [results, Try.results20, go_sem, e3]) rfl ⟨f0, f1, f2, f3, rfl, e1, e2⟩
        have z7 : (z == 7) = false := by simpa using c7
        by_cases c9 : z = 9
        · subst c9
          have one : True := trivial
          go_upto_region 27 with (first | (go_at_call 31; refine (h31_any w.heap.size (w.heap.size + 1 + 1 + 1) d zl.length dd B zl _ hS.ku hS.kd hS.dk hS.rd (fun h0 ad ha => by have := (hS.hU h0 ad ha).1; omega) (by omega) (by omega) (by omega)).mono ?_; rintro e w1 ⟨x1, rfl, hDk, hB⟩; replace hS := hS.next hDk hB; (obtain ⟨_, _, _, _, kq'⟩ := hS.kq); have cq := kq'.cell; have fq := kq'.froz; (first | (clear one; obtain ⟨xa, rfl⟩ : ∃ y, y = x1 := ⟨_, rfl⟩) | (obtain ⟨xb, rfl⟩ : ∃ y, y = x1 := ⟨_, rfl⟩))))
          replace hS := hS.store 1 xa
          obtain ⟨f0, f1, f2, f3, kf⟩ := hS.kq
          have cf := kf.cell
          have cr := hS.kr.cell
          have fr := hS.kr.froz
          have hq3 := hS.hq
          have nqr : q ≠ w.heap.size + 1 + 1 := by omega
          have nrq : w.heap.size + 1 + 1 ≠ q := by omega
          obtain ⟨e1, e2, e3⟩ := hS.fin (.int .i64 f0) (.int .i64 f1) (.int .i64 f2) (.int .i64 f3)
          go_wp2
          exact bodyPost_ret (v := .agg #[.int .i64 f0, .int .i64 f1, .int .i64 f2, .int .i64 f3]) (by simp [results, Try.results20, go_sem, e3]) rfl ⟨f0, f1, f2, f3, rfl, e1, e2⟩
        have z9 : (z == 9) = false := by simpa using c9
        go_upto_region 27 with fail
        clear kq mq
        obtain ⟨f0, f1, f2, f3, kf⟩ := hS.kq
        have cf := kf.cell
        have cr := hS.kr.cell
        have fr := hS.kr.froz
        have hq3 := hS.hq
        have nqr : q ≠ w.heap.size + 1 + 1 := by omega
        have nrq : w.heap.size + 1 + 1 ≠ q := by omega
        obtain ⟨e1, e2, e3⟩ := hS.fin (.int .i64 f0) (.int .i64 f1) (.int .i64 f2) (.int .i64 f3)
        go_wp2
        exact bodyPost_ret (v := .agg #[.int .i64 f0, .int .i64 f1, .int .i64 f2, .int .i64 f3]) (by simp [results, Try.results20, go_sem, e3]) rfl ⟨f0, f1, f2, f3, rfl, e1, e2⟩
end Go.Proofs.Ytamghjilcfeheaa
