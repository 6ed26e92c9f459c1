/- The library's Clone, SortFunc, Equal and Compact at rows of integers, as the walks use them; the comparison of order. Conditions: the ranges that each theorem states. -/
import Derived.Test.YtljkadpconghnaaSpcT
import Derived.Test.YtljkadpconghnaaShelf
namespace Go.Proofs.Ytljkadpconghnaa
open Go.RowKit Go.Draw Go.Sort Go.Lib Go.Shelf

def cf (a b : Int) : Int := if a < b then -1 else if b < a then 1 else 0
theorem cmp_any (x y : Int) (w : World) : Calls Try.prog 30 #[.int .i64 x, .int .i64 y] w fun e w' => e = .returned (.int .i64 (cf x y)) ∧ w' = w := by
  by_cases h1 : x < y
  · have d1 : decide (x < y) = true := by simpa using h1
    have He := Lib.hid (show cf x y = -1 by unfold cf; rw [if_pos h1])
    go_enter Try.func30, Try.ntmps30
    go_wp2
    go_ret
    exact ⟨ret_int He.out.symm, rfl⟩
  · have d1 : decide (x < y) = false := by simpa using h1
    by_cases h2 : y < x
    · have d2 : decide (y < x) = true := by simpa using h2
      have He := Lib.hid (show cf x y = 1 by unfold cf; rw [if_neg h1, if_pos h2])
      go_enter Try.func30, Try.ntmps30
      go_wp2
      go_ret
      exact ⟨ret_int He.out.symm, rfl⟩
    · have d2 : decide (y < x) = false := by simpa using h2
      have He := Lib.hid (show cf x y = 0 by unfold cf; rw [if_neg h1, if_neg h2])
      go_enter Try.func30, Try.ntmps30
      go_wp2
      go_ret
      exact ⟨ret_int He.out.symm, rfl⟩
theorem cl1_any (x y : Int) (w : World) : Calls Try.prog 29 #[.int .i64 x, .int .i64 y] w fun e w' => e = .returned (.int .i64 (cf x y)) ∧ ∃ q, w' = w.drewN q := by
  have hcon := cmp_any x y w
  generalize cf x y = r at hcon ⊢
  go_enter Try.func29, Try.ntmps29
  go_wp2_with (go_at_call 30; refine hcon.mono ?_; rintro e w' ⟨rfl, rfl⟩)
  go_ret
  exact ⟨rfl, 0, rfl⟩
theorem cl2_any (x y : Int) (w : World) : Calls Try.prog 31 #[.int .i64 x, .int .i64 y] w fun e w' => e = .returned (.int .i64 (cf x y)) ∧ ∃ q, w' = w.drewN q := by
  have hcon := cmp_any x y w
  generalize cf x y = r at hcon ⊢
  go_enter Try.func31, Try.ntmps31
  go_wp2_with (go_at_call 30; refine hcon.mono ?_; rintro e w' ⟨rfl, rfl⟩)
  go_ret
  exact ⟨rfl, 0, rfl⟩
theorem lt_cf (x y : Int) : ltOf cf x y = decide (x < y) := by
  unfold ltOf cf
  by_cases h1 : x < y
  · simp [h1]
  · by_cases h2 : y < x <;> simp [h1, h2]
theorem swo_cf : SWO (ltOf cf) where
  irrefl x := by rw [lt_cf]; simp
  trans x y z h1 h2 := by rw [lt_cf] at *; simp at *; omega
  ntrans x y z h1 h2 := by rw [lt_cf] at *; simp at *; omega
theorem tot_cf (x y : Int) (h1 : ltOf cf x y = false) (h2 : ltOf cf y x = false) : x = y := by
  rw [lt_cf] at h1 h2
  simp at h1 h2
  omega
def srt (zs : List Int) : List Int := zs.mergeSort fun x y => decide (x ≤ y)
theorem srt_eq (zs : List Int) : (zs.mergeSort fun x y => !(ltOf cf) y x) = srt zs := by
  unfold srt
  congr 1
  funext x y
  rw [lt_cf]
  by_cases h : y < x <;> simp [h] <;> omega
theorem srt_perm (zs : List Int) : (srt zs).Perm zs := List.mergeSort_perm _ _
theorem srt_len (zs : List Int) : (srt zs).length = zs.length := (srt_perm zs).length_eq
theorem sw_at {w : World} {g m k : Nat} {d : Array Int} {os : Array Obj} (hk : k < w.heap.size) : (sortWorld (Value.int .i64) w g 0 m d os).heap[k]? = (w.heap.modify g (onCells (putCells (Value.int .i64) 0 d)))[k]? := by
  unfold sortWorld
  rw [heap_grow_old _ _ (by simpa [putRow, mapBlock, Sort.ahead] using hk)]
  rfl
theorem own_sorted {w : World} {base g n c m : Nat} {zs d : List Int} {os : Array Obj} (h : w.ownsRow base 3 1 (.slice (some ⟨g, 0, none⟩) n c) n (ints zs)) (hd : d.length = n) :
    (sortWorld (Value.int .i64) w g 0 m d.toArray os).ownsRow base 3 1 (.slice (some ⟨g, 0, none⟩) n c) n (ints d) ∧ But [g] w (sortWorld (Value.int .i64) w g 0 m d.toArray os) := by
  rcases h.2 with ⟨h0, _⟩ | ⟨k, cap, cur, hv, hb, hg, hnc, hcm, hcs, htake⟩
  · simp at h0
  · simp only [Value.slice.injEq, Option.some.injEq, Addr.mk.injEq, and_true, true_and] at hv
    obtain ⟨rfl, rfl⟩ := hv
    have hgl : g < w.heap.size := (World.ownsRow.lt h g rfl).2
    have hblk : (sortWorld (Value.int .i64) w g 0 m d.toArray os).heap[g]? = some (.cells (putCells (Value.int .i64) 0 d.toArray cur) 3 (0, 0)) := by
      rw [sw_at hgl, Array.getElem?_modify, if_pos rfl, hg]
      rfl
    refine ⟨⟨by simp [ints, hd], .inr ⟨g, c, _, rfl, hb, hblk, hnc, hcm, by simpa [putCells] using hcs, ?_⟩⟩, ?_⟩
    · apply List.ext_getElem?
      intro j
      rw [List.getElem?_take]
      by_cases hj : j < n * 1
      · rw [if_pos hj]
        have hjd : j < d.length := by omega
        have hjc : j < cur.size := by omega
        simp only [putCells, Array.getElem?_toList, Array.getElem?_mapIdx, Array.getElem?_eq_getElem hjc, Option.map_some]
        rw [if_pos ⟨by omega, by simpa using hjd⟩]
        simp [ints, List.getElem?_eq_getElem hjd, hjd]
      · rw [if_neg hj, List.getElem?_eq_none (by simp [ints]; omega)]
    · refine ⟨rfl, rfl, rfl, by simp [sortWorld, grow, putRow, mapBlock, Sort.ahead], fun k hk hn => ?_⟩
      have hne : g ≠ k := fun e => hn (by simp [e])
      rw [sw_at hk, Array.getElem?_modify, if_neg hne]
theorem sort_row (f : Nat) (hf : ∀ x y w, Calls Try.prog f #[.int .i64 x, .int .i64 y] w fun e w' => e = .returned (.int .i64 (cf x y)) ∧ ∃ q, w' = w.drewN q) (eg : ∀ args w, (callFunc f args).run Try.prog w = .ok (.enter f args) w)
    (A : Option Addr) (n c base : Nat) (zs : List Int) (w : World) (h : w.ownsRow base 3 1 (.slice A n c) n (ints zs)) (hl : n ≤ 1000) :
    Calls Try.prog 28 #[.slice A n c, .func (.func f) #[] #[]] w fun e w' => e = .returned (.tuple #[]) ∧ w'.ownsRow base 3 1 (.slice A n c) n (ints (srt zs)) ∧ But (Value.slice A n c).ownBlock.toList w w' := by
  have hzl : zs.length = n := by have := h.1; simpa [ints] using this
  rcases Nat.eq_zero_or_pos n with rfl | h0
  · refine (Try.slices_SortFunc_none (α := Int) A c _ w).mono ?_
    rintro e w' ⟨rfl, rfl⟩
    have : zs = [] := List.eq_nil_of_length_eq_zero hzl
    subst this
    exact ⟨rfl, by rw [show srt [] = [] from List.eq_nil_of_length_eq_zero (by rw [srt_len]; rfl)]; exact h, But.refl _ _⟩
  · obtain ⟨g, rfl, hb, hg⟩ := own_form h h0
    have hc := own_cells h
    have hH : Holds (Value.int .i64) w g 0 zs.toArray := fun j hj => by
      have hjl : j < zs.length := by simpa using hj
      refine ⟨?_, hc.2 _⟩
      rw [Nat.zero_add]
      refine hc.1 j _ ?_
      simp [ints, List.getElem?_eq_getElem hjl, hjl]
    have hcr : CmpReads Try.prog f #[] (Value.int .i64) cf g 0 zs.toArray.size w := fun _ _ _ _ x y => hf x y _
    have hs := Try.slices_SortFunc_total (Value.int .i64) (fun _ => rfl) cf swo_cf f #[] g 0 c zs.toArray w eg hcr.lays hH hg (by simp; omega) tot_cf
    have e1 : zs.toArray.size = n := by simpa using hzl
    rw [e1] at hs
    refine hs.mono ?_
    rintro e w' ⟨rfl, m, os, rfl⟩
    have e2 : (zs.toArray.toList.mergeSort fun x y => !(ltOf cf) y x) = srt zs := by simp only [List.toList_toArray]; exact srt_eq zs
    rw [e2]
    have := own_sorted (m := m) (os := os) h (d := srt zs) (by rw [srt_len]; exact hzl)
    exact ⟨rfl, this.1, by simpa [Value.ownBlock] using this.2⟩
theorem clone_row (A : Option Addr) (n c : Nat) (zs : List Int) (w : World) (h : Rd w A n 1 (ints zs)) (hl : n ≤ 1000) :
    Calls Try.prog 27 #[.slice A n c] w fun e w' => ∃ A' c', e = .returned (.slice A' n c') ∧ w'.ownsRow w.heap.size 3 1 (.slice A' n c') n (ints zs) ∧ Ext w w' := by
  have hzl : zs.length = n := by have := h.1; simpa [ints] using this
  have fin : ∀ (v' : Value) (w' : World), w'.ownsRow w.heap.size 3 1 v' n (ints zs) → ∃ A' c', v' = .slice A' n c' := fun v' w' ho => by
    rcases ho.2 with ⟨h0, hz⟩ | ⟨k, cap, cur, hv, _⟩
    · exact ⟨none, 0, by rw [h0, hz]⟩
    · exact ⟨_, cap, hv⟩
  cases A with
  | none =>
    have h0 : n = 0 := by
      rcases Nat.eq_zero_or_pos n with h0 | h0
      · exact h0
      · obtain ⟨b, o, hA, _⟩ := h.2 h0
        cases hA
    subst h0
    have : zs = [] := List.eq_nil_of_length_eq_zero hzl
    subst this
    refine (Try.slices_Clone_int_nil 0 c w).mono ?_
    rintro e w' ⟨rfl, rfl⟩
    exact ⟨none, 0, rfl, own_nil _ _ _ _, Ext.refl _⟩
  | some a =>
    rcases Nat.eq_zero_or_pos n with rfl | h0
    · have : zs = [] := List.eq_nil_of_length_eq_zero hzl
      subst this
      refine (Try.slices_Clone_int_zero a c w).mono ?_
      rintro e w' ⟨v', rfl, ho, _, hE⟩
      obtain ⟨A', c', rfl⟩ := fin v' w' ho
      exact ⟨A', c', rfl, ho, hE⟩
    · obtain ⟨b, o, hA, hc⟩ := h.2 h0
      injection hA with hA
      subst hA
      refine (Try.slices_Clone_int b o n c zs w (by omega) (by omega) (fun j hj => hc j _ (by simp [ints, List.getElem?_eq_getElem hj, hj]))).mono ?_
      rintro e w' ⟨v', rfl, ho, _, hE⟩
      rw [← hzl, List.take_length] at ho
      rw [hzl] at ho
      obtain ⟨A', c', rfl⟩ := fin v' w' ho
      exact ⟨A', c', rfl, ho, hE⟩
theorem ext_drewN (w : World) (q : Nat) : Ext w (w.drewN q) := ⟨rfl, rfl, rfl, Nat.le_refl _, fun _ _ => rfl⟩
theorem equal_row (A B : Option Addr) (n c d : Nat) (xs ys : List Int) (w : World) (hA : Rd w A n 1 (ints xs)) (hB : Rd w B n 1 (ints ys)) (hl : n ≤ 1000) :
    Calls Try.prog 32 #[.slice A n c, .slice B n d] w fun e w' => e = .returned (.bool (decide (xs = ys))) ∧ Ext w w' := by
  have h1 : xs.length = n := by have := hA.1; simpa [ints] using this
  have h2 : ys.length = n := by have := hB.1; simpa [ints] using this
  rcases Nat.eq_zero_or_pos n with rfl | h0
  · have e1 : xs = [] := List.eq_nil_of_length_eq_zero h1
    have e2 : ys = [] := List.eq_nil_of_length_eq_zero h2
    subst e1 e2
    refine (Try.slices_Equal_int_empty A B c 0 d w (by omega)).mono ?_
    rintro e w' ⟨rfl, rfl⟩
    exact ⟨rfl, Ext.refl _⟩
  · obtain ⟨b1, o1, rfl, c1⟩ := hA.2 h0
    obtain ⟨b2, o2, rfl, c2⟩ := hB.2 h0
    refine (Try.slices_Equal_int b1 o1 n c b2 o2 n d xs ys w (by omega) (by omega) (by omega) (by omega) (fun j hj => c1 j _ (by simp [ints, List.getElem?_eq_getElem hj, hj])) (fun j hj => c2 j _ (by simp [ints, List.getElem?_eq_getElem hj, hj]))).mono ?_
    rintro e w' ⟨rfl, q, rfl⟩
    refine ⟨?_, ext_drewN w q⟩
    rw [List.take_of_length_le (by omega), List.take_of_length_le (by omega)]
    congr 2
    rw [Bool.eq_iff_iff]
    simp
theorem but_setCells (b : Nat) : ∀ (vs : List Value) (o : Nat) (w : World), But [b] w (w.setCells b o vs)
  | [], o, w => But.refl _ _
  | v :: vs, o, w => (But.setCell (But.refl _ _) (by simp) v).trans (but_setCells b vs (o + 1) (w.setCell ⟨b, o, none⟩ v))
theorem compact_row (A : Option Addr) (n c base : Nat) (zs : List Int) (w : World) (h : w.ownsRow base 3 1 (.slice A n c) n (ints zs)) (hl : n ≤ 1000) :
    Calls Try.prog 33 #[.slice A n c] w fun e w' => ∃ A' c', e = .returned (.slice A' (Lib.compact zs).length c') ∧ But (Value.slice A n c).ownBlock.toList w w' := by
  have hzl : zs.length = n := by have := h.1; simpa [ints] using this
  rcases Nat.eq_zero_or_pos n with rfl | h0
  · refine (Try.slices_Compact_int_empty A c w).mono ?_
    rintro e w' ⟨rfl, rfl⟩
    have : zs = [] := List.eq_nil_of_length_eq_zero hzl
    subst this
    exact ⟨A, c, rfl, But.refl _ _⟩
  · obtain ⟨g, rfl, hb, hg⟩ := own_form h h0
    have hc := own_cells h
    have hnc : n ≤ c := by
      rcases h.2 with ⟨h0, _⟩ | ⟨k, cap, cur, hv, _, _, hnc, _⟩
      · simp at h0
      · simp only [Value.slice.injEq] at hv
        omega
    refine (Try.slices_Compact_int_cells g 0 n c zs w (by omega) (by omega) hnc (fun j hj => by rw [Nat.zero_add]; exact hc.1 j _ (by simp [ints, List.getElem?_eq_getElem hj, hj])) (fun j _ => hc.2 _)).mono ?_
    rintro e w' ⟨rfl, q, rfl⟩
    rw [List.take_of_length_le (by omega)]
    refine ⟨_, c, rfl, ?_⟩
    have hx : But [g] w (w.drewN q) := (ext_drewN w q).but _
    simpa [Value.ownBlock] using hx.trans (but_setCells g _ 0 (w.drewN q))
end Go.Proofs.Ytljkadpconghnaa
