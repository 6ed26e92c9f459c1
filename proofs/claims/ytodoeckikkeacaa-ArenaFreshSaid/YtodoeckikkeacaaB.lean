/- The walks of clone.Words, of arena.Make, Read, Write and of their references. Conditions: the ranges that each theorem states. -/
import Derived.Test.YtodoeckikkeacaaA
import Derived.Laws.IdiomCopy
namespace Go.Proofs.Ytodoeckikkeacaa
open Go.RowKit Go.Draw

theorem Try.el22 : Elem Try.prog 22 23 (.int .u64 0) 1 8 := ⟨Try.underlying22, by kernel_rfl, rfl, by omega⟩
theorem one_words (rs : List Int) : ∀ u ∈ words rs, u.oneCell' = true := by
  intro u hu; obtain ⟨b, _, rfl⟩ := List.mem_map.1 hu; rfl

/-- a new slice that the call owns -/
def RetRow (w : World) (xs : List Value) (n : Nat) (r : Ending) (w' : World) : Prop :=
  ∃ A c, r = .returned (.slice A n c) ∧ w'.ownsRow w.heap.size 23 1 (.slice A n c) n xs ∧ Ext w w'

set_option maxHeartbeats 400000 in
theorem words_any (A : Option Addr) (n c : Nat) (rs : List Int) (w : World) (hr : Rd w A n 1 (words rs)) (hn : n ≤ 1000000) :
    Calls Try.prog 23 #[.slice A n c] w fun r w' => RetRow w (words rs) n r w' := by
  go_enter Try.func23, Try.ntmps23
  go_wp2_with (first | (at_builtin; refine wpList_clone rfl Try.el22 _ _ rfl rfl w.heap.size A n c (words rs) rfl hr (one_words rs) hn (by omega) (Nat.le_refl _) ?_; intro B d w1 hB hE))
  go_ret
  exact ⟨B, d, rfl, hB, hE⟩
set_option maxHeartbeats 400000 in
theorem clone_any (A : Option Addr) (n c : Nat) (rs : List Int) (w : World) (hr : Rd w A n 1 (words rs)) (hn : n ≤ 1000000) :
    Calls Try.prog 14 #[.slice A n c] w fun r w' => RetRow w (words rs) n r w' := by
  go_enter Try.func14, Try.ntmps14
  go_wp2_with (first | (at_builtin; refine wpList_clone rfl Try.el22 _ _ rfl rfl w.heap.size A n c (words rs) rfl hr (one_words rs) hn (by omega) (Nat.le_refl _) ?_; intro B d w1 hB hE))
  go_ret
  exact ⟨B, d, rfl, hB, hE⟩

/-- an own slice and an error -/
def RetW (w : World) (rs : List Int) (er : Int) (r : Ending) (w' : World) : Prop :=
  ∃ A c, r = .returned (.tuple #[.slice A rs.length c, .int .i64 er]) ∧ w'.ownsRow w.heap.size 23 1 (.slice A rs.length c) rs.length (words rs) ∧ Ext w w'
theorem RetW.none_ {w w' : World} {er : Int} {r : Ending} (h : r = .returned (.tuple #[.slice none 0 0, .int .i64 er])) (he : Ext w w') : RetW w [] er r w' :=
  ⟨none, 0, h, own_nil _ _ _ _, he⟩

/-- n zero words, or an error -/
def makeA (n : Int) : List Int × Int := if 0 ≤ n ∧ n ≤ 16384 then (List.replicate n.toNat 0, 0) else ([], 1)
set_option maxHeartbeats 400000 in
theorem make_any (n : Int) (w : World) : Calls Try.prog 16 #[.int .i64 n] w fun r w' => RetW w (makeA n).1 (makeA n).2 r w' := by
  by_cases h0 : n < 0
  · have h1 : decide (n < 0) = true := by simpa using h0
    rw [show makeA n = ([], 1) by unfold makeA; rw [if_neg (by omega)]]
    clear h0
    go_enter Try.func16, Try.ntmps16
    go_wp2
    go_ret2
    exact RetW.none_ rfl (Ext.refl _)
  · obtain ⟨k, rfl⟩ : ∃ k : Nat, n = (k : Int) := ⟨n.toNat, by omega⟩
    have h1 : decide ((k : Int) < 0) = false := by simp
    by_cases h2 : 16384 < k
    · have h3 : decide ((16384 : Int) < k) = true := by simp; omega
      have h3' : decide (16384 < k) = true := by simp; omega
      rw [show makeA k = ([], 1) by unfold makeA; rw [if_neg (by omega)]]
      clear h0 h2
      go_enter Try.func16, Try.ntmps16
      go_wp2
      go_ret2
      exact RetW.none_ rfl (Ext.refl _)
    · have h3 : decide ((16384 : Int) < k) = false := by simp; omega
      have h3' : decide (16384 < k) = false := by simp; omega
      rw [show makeA k = (List.replicate k 0, 0) by unfold makeA; rw [if_pos (by omega)]; simp]
      have hmk := run_mk Try.el22 rfl k (by omega) (by omega) w
      clear h0
      go_enter Try.func16, Try.ntmps16
      go_wp2
      go_ret2
      refine ⟨some ⟨w.heap.size, 0, none⟩, k, by simp, ?_, by (repeat (first | (with_reducible exact Ext.refl _) | assumption | (with_reducible refine Ext.alloc ?_ _) | (with_reducible refine Ext.drew ?_) | (with_reducible refine Ext.drewL ?_) | refine Ext.trans ?_ (by assumption)))⟩
      have := own_new (base := w.heap.size) (w := w) (cs := words (List.replicate k 0)) (e := 23) (size := 1) (n := k) rfl (Nat.le_refl _) (by omega) (by simp [words])
      simpa [words] using this
set_option maxHeartbeats 400000 in
theorem rmake_any (n : Int) (w : World) : Calls Try.prog 17 #[.int .i64 n] w fun r w' => RetW w (makeA n).1 (makeA n).2 r w' := by
  by_cases h0 : n < 0
  · have h1 : decide (n < 0) = true := by simpa using h0
    rw [show makeA n = ([], 1) by unfold makeA; rw [if_neg (by omega)]]
    clear h0
    go_enter Try.func17, Try.ntmps17
    go_wp2
    go_ret2
    exact RetW.none_ rfl (Ext.refl _)
  · obtain ⟨k, rfl⟩ : ∃ k : Nat, n = (k : Int) := ⟨n.toNat, by omega⟩
    have h1 : decide ((k : Int) < 0) = false := by simp
    by_cases h2 : 16384 < k
    · have h3 : decide ((16384 : Int) < k) = true := by simp; omega
      have h3' : decide (16384 < k) = true := by simp; omega
      rw [show makeA k = ([], 1) by unfold makeA; rw [if_neg (by omega)]]
      clear h0 h2
      go_enter Try.func17, Try.ntmps17
      go_wp2
      go_ret2
      exact RetW.none_ rfl (Ext.refl _)
    · have h3 : decide ((16384 : Int) < k) = false := by simp; omega
      have h3' : decide (16384 < k) = false := by simp; omega
      rw [show makeA k = (List.replicate k 0, 0) by unfold makeA; rw [if_pos (by omega)]; simp]
      have hmk := run_mk Try.el22 rfl k (by omega) (by omega) w
      clear h0
      go_enter Try.func17, Try.ntmps17
      go_wp2
      go_ret2
      refine ⟨some ⟨w.heap.size, 0, none⟩, k, by simp, ?_, by (repeat (first | (with_reducible exact Ext.refl _) | assumption | (with_reducible refine Ext.alloc ?_ _) | (with_reducible refine Ext.drew ?_) | (with_reducible refine Ext.drewL ?_) | refine Ext.trans ?_ (by assumption)))⟩
      have := own_new (base := w.heap.size) (w := w) (cs := words (List.replicate k 0)) (e := 23) (size := 1) (n := k) rfl (Nat.le_refl _) (by omega) (by simp [words])
      simpa [words] using this

/-- the word at a, or an error -/
def readA (rs : List Int) (a : Int) : Int × Int := if 0 ≤ a ∧ a < rs.length then (rs.getD a.toNat 0, 0) else (0, 2)
set_option maxHeartbeats 400000 in
theorem read_any (A : Option Addr) (n c : Nat) (rs : List Int) (a : Int) (w : World) (hr : Rd w A n 1 (words rs)) (hn : n ≤ 1000000) :
    Calls Try.prog 15 #[.slice A n c, .int .i64 a] w fun r w' => r = .returned (.tuple #[.int .u64 (readA rs a).1, .int .i64 (readA rs a).2]) ∧ Ext w w' := by
  have hl : rs.length = n := by have := hr.1; simpa [words] using this
  by_cases hin : 0 ≤ a ∧ a < n
  · obtain ⟨k, rfl⟩ : ∃ k : Nat, a = (k : Int) := ⟨a.toNat, by omega⟩
    have hk : k < n := by omega
    obtain ⟨b, o, u, rfl, hku, hc⟩ := hr.at_ hk
    simp only [words, List.getElem?_map, Option.map_eq_some_iff] at hku
    obtain ⟨x, hx1, rfl⟩ := hku
    rw [show readA rs k = (x, 0) by unfold readA; rw [if_pos (by omega)]; simp [List.getD_eq_getElem?_getD, hx1]]
    have hb := cell_lt hc
    clear hin hx1 hl hr
    go_enter_defers Try.func15, Try.ntmps15
    go_wp2_with (first | (go_at_call 25; refine (at_in b o n c k _ hk hn).mono ?_; rintro e w1 ⟨rfl, rfl⟩))
    exact leave_ok (.tuple #[.int .u64 x, .int .i64 0]) (by simp [results, Try.results15, go_sem]) ⟨rfl, by (repeat (first | (with_reducible exact Ext.refl _) | assumption | (with_reducible refine Ext.alloc ?_ _) | (with_reducible refine Ext.drew ?_) | (with_reducible refine Ext.drewL ?_) | refine Ext.trans ?_ (by assumption)))⟩
  · rw [show readA rs a = (0, 2) by unfold readA; rw [if_neg (by omega)]]
    clear hl hr
    go_enter_defers Try.func15, Try.ntmps15
    go_wp2_with (first | (go_at_call 25; refine (at_out A n c a _ (by omega)).mono ?_; rintro e w1 ⟨ho, rfl⟩; obtain rfl := ho))
    exact leave_out (x := 0) (by simp) (by simp) (.tuple #[.int .u64 0, .int .i64 2]) (fun o => by simp [results, Try.results15, go_sem]) (fun o => ⟨rfl, Ext.alloc (Ext.setCell (Ext.alloc (Ext.refl _) _) (by simp) _) _⟩)
set_option maxHeartbeats 400000 in
theorem rread_any (A : Option Addr) (n c : Nat) (rs : List Int) (a : Int) (w : World) (hr : Rd w A n 1 (words rs)) (hn : n ≤ 1000000) :
    Calls Try.prog 18 #[.slice A n c, .int .i64 a] w fun r w' => r = .returned (.tuple #[.int .u64 (readA rs a).1, .int .i64 (readA rs a).2]) ∧ Ext w w' := by
  have hl : rs.length = n := by have := hr.1; simpa [words] using this
  by_cases h0 : a < 0
  · have h1 : decide (a < 0) = true := by simpa using h0
    rw [show readA rs a = (0, 2) by unfold readA; rw [if_neg (by omega)]]
    clear hr hl h0
    go_enter Try.func18, Try.ntmps18
    go_wp2
    go_ret2
    exact ⟨rfl, Ext.refl _⟩
  · obtain ⟨k, rfl⟩ : ∃ k : Nat, a = (k : Int) := ⟨a.toNat, by omega⟩
    have h1 : decide ((k : Int) < 0) = false := by simp
    by_cases hk : k < n
    · have h2 : decide ((n : Int) ≤ k) = false := by simp; omega
      have h2' : decide (n ≤ k) = false := by simp; omega
      have h3 : (k : Int) < n := by omega
      obtain ⟨b, o, u, rfl, hku, hc⟩ := hr.at_ hk
      simp only [words, List.getElem?_map, Option.map_eq_some_iff] at hku
      obtain ⟨x, hx1, rfl⟩ := hku
      rw [show readA rs k = (x, 0) by unfold readA; rw [if_pos (by omega)]; simp [List.getD_eq_getElem?_getD, hx1]]
      have hb := cell_lt hc
      clear hx1 hl hr h0
      go_enter Try.func18, Try.ntmps18
      go_wp2
      go_ret2
      exact ⟨rfl, Ext.refl _⟩
    · have h2 : decide ((n : Int) ≤ k) = true := by simp; omega
      have h2' : decide (n ≤ k) = true := by simp; omega
      rw [show readA rs k = (0, 2) by unfold readA; rw [if_neg (by omega)]]
      clear hr hl h0 hk
      go_enter Try.func18, Try.ntmps18
      go_wp2
      go_ret2
      exact ⟨rfl, Ext.refl _⟩

theorem words_set (rs : List Int) (i : Nat) (v : Int) : (words rs).set i (.int .u64 v) = words (rs.set i v) := by simp [words, List.map_set]
/-- the words with one set, or an error -/
def writeA (rs : List Int) (a v : Int) : List Int × Int := if 0 ≤ a ∧ a < rs.length then (rs.set a.toNat v, 0) else ([], 2)
theorem blk_of_ext {w w' : World} {cs : Array Value} {t : TypeId} (h : Ext (w.alloc (.cells cs t)) w') : Blk w' w.heap.size t cs := (Blk.new rfl).ext h
set_option maxHeartbeats 800000 in
theorem write_any (A : Option Addr) (n c : Nat) (rs : List Int) (a v : Int) (w : World) (hr : Rd w A n 1 (words rs)) (hn : n ≤ 1000000) :
    Calls Try.prog 19 #[.slice A n c, .int .i64 a, .int .u64 v] w fun r w' => RetW w (writeA rs a v).1 (writeA rs a v).2 r w' := by
  have hl : rs.length = n := by have := hr.1; simpa [words] using this
  by_cases hin : 0 ≤ a ∧ a < n
  · obtain ⟨k, rfl⟩ : ∃ k : Nat, a = (k : Int) := ⟨a.toNat, by omega⟩
    have hk : k < n := by omega
    have hkI : (k : Int) < n := by omega
    obtain ⟨b, o, u, rfl, hku, hc⟩ := hr.at_ hk
    rw [show writeA rs k v = (rs.set k v, 0) by unfold writeA; rw [if_pos (by omega)]; simp]
    have hgi : (words rs)[k]? = some u := hku
    have hb := cell_lt hc
    have Hl := Lib.hid hl
    clear hin hl hku hc
    go_enter_defers Try.func19, Try.ntmps19
    go_wp2_with (first | (go_at_call 25; refine (at_in b o n c k _ hk hn).mono ?_; rintro e w1 ⟨rfl, rfl⟩) | (go_at_call 23; refine (words_any _ n c rs _ (hr.ext (by (repeat (first | (with_reducible exact Ext.refl _) | assumption | (with_reducible refine Ext.alloc ?_ _) | (with_reducible refine Ext.drew ?_) | (with_reducible refine Ext.drewL ?_) | refine Ext.trans ?_ (by assumption))))) hn).mono ?_; rintro e w1 ⟨B, d, rfl, hB, hE⟩; have hcW := Ext.cell hE; have hfW := Ext.froz hE; have hzW := hE.size_le; obtain ⟨g, rfl, hg1, hg2⟩ := own_form hB (by omega); obtain ⟨hcg, hfg⟩ := own_cells hB; have hq := hcg k _ hgi; clear hcg; have k5 := blk_of_ext hE; have c5 := k5.cell; have f5 := k5.froz; have b5 := k5.lt; have hne : w.heap.size ≠ g := by (simp at hg1; omega)))
    refine leave_ok (.tuple #[.slice (some ⟨g, 0, none⟩) n d, .int .i64 0]) (by simp [results, Try.results19, go_sem, *]) ?_
    have e1 : (rs.set k v).length = n := by simp [Hl.out]
    refine ⟨some ⟨g, 0, none⟩, d, by rw [e1], ?_, ?_⟩
    · rw [e1, ← words_set]
      exact own_other (own_set (own_base hB (by simp)) k _) (Ne.symm hne) _
    · refine Ext.setCell (Ext.setCell (Ext.trans (Ext.alloc (Ext.refl _) _) hE) ?_ _) (Nat.le_refl _) _
      simp at hg1; show w.heap.size ≤ g; omega
  · rw [show writeA rs a v = ([], 2) by unfold writeA; rw [if_neg (by omega)]]
    clear hl hr
    go_enter_defers Try.func19, Try.ntmps19
    go_wp2_with (first | (go_at_call 25; refine (at_out A n c a _ (by omega)).mono ?_; rintro e w1 ⟨ho, rfl⟩; obtain rfl := ho))
    exact leave_out (x := 0) (by simp) (by simp) (.tuple #[.slice none 0 0, .int .i64 2]) (fun o => by simp [results, Try.results19, go_sem]) (fun o => RetW.none_ rfl (Ext.alloc (Ext.setCell (Ext.alloc (Ext.refl _) _) (by simp) _) _))
set_option maxHeartbeats 800000 in
theorem rwrite_any (A : Option Addr) (n c : Nat) (rs : List Int) (a v : Int) (w : World) (hr : Rd w A n 1 (words rs)) (hn : n ≤ 1000000) :
    Calls Try.prog 20 #[.slice A n c, .int .i64 a, .int .u64 v] w fun r w' => RetW w (writeA rs a v).1 (writeA rs a v).2 r w' := by
  have hl : rs.length = n := by have := hr.1; simpa [words] using this
  by_cases h0 : a < 0
  · have h1 : decide (a < 0) = true := by simpa using h0
    rw [show writeA rs a v = ([], 2) by unfold writeA; rw [if_neg (by omega)]]
    clear hl hr h0
    go_enter Try.func20, Try.ntmps20
    go_wp2
    go_ret2
    exact RetW.none_ rfl (Ext.refl _)
  · obtain ⟨k, rfl⟩ : ∃ k : Nat, a = (k : Int) := ⟨a.toNat, by omega⟩
    have h1 : decide ((k : Int) < 0) = false := by simp
    by_cases hk : k < n
    · have h2 : decide ((n : Int) ≤ k) = false := by simp; omega
      have h2' : decide (n ≤ k) = false := by simp; omega
      have hkI : (k : Int) < n := by omega
      rw [show writeA rs k v = (rs.set k v, 0) by unfold writeA; rw [if_pos (by omega)]; simp]
      have hgi : (words rs)[k]? = some (.int .u64 (rs[k]'(by omega))) := by simp [words]
      generalize rs[k]'(by omega) = ri at hgi
      have Hl := Lib.hid hl
      clear hl h0
      go_enter Try.func20, Try.ntmps20
      go_wp2_with (first | (go_at_call 14; refine (clone_any _ n c rs _ (hr.ext (by (repeat (first | (with_reducible exact Ext.refl _) | assumption | (with_reducible refine Ext.alloc ?_ _) | (with_reducible refine Ext.drew ?_) | (with_reducible refine Ext.drewL ?_) | refine Ext.trans ?_ (by assumption))))) hn).mono ?_; rintro e w1 ⟨B, d, rfl, hB, hE⟩; have hcW := Ext.cell hE; have hfW := Ext.froz hE; have hzW := hE.size_le; obtain ⟨g, rfl, hg1, hg2⟩ := own_form hB (by omega); obtain ⟨hcg, hfg⟩ := own_cells hB; have hq := hcg k _ hgi; clear hcg))
      go_ret2
      have e1 : (rs.set k v).length = n := by simp [Hl.out]
      refine ⟨some ⟨g, 0, none⟩, d, by rw [e1]; rfl, ?_, ?_⟩
      · rw [e1, ← words_set]
        exact own_set hB k _
      · exact Ext.setCell hE hg1 _
    · have h2 : decide ((n : Int) ≤ k) = true := by simp; omega
      have h2' : decide (n ≤ k) = true := by simp; omega
      rw [show writeA rs k v = ([], 2) by unfold writeA; rw [if_neg (by omega)]]
      clear hr hl h0 hk
      go_enter Try.func20, Try.ntmps20
      go_wp2
      go_ret2
      exact RetW.none_ rfl (Ext.refl _)
end Go.Proofs.Ytodoeckikkeacaa
