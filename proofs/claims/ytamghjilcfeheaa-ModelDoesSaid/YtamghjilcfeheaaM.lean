/- What the pure operation keeps: valid graphs, the number of nodes. Plain facts, no walk. -/
import Derived.Test.YtamghjilcfeheaaH
namespace Go.Proofs.Ytamghjilcfeheaa
open Go.RowKit Go.Draw

theorem Vld.give {g : Gr} (h : Vld g) {i : Nat} {r : Int} (h0 : 0 ≤ r) (h1 : r < g.ns.length) : Vld ⟨g.ns, g.us.set i true, g.rs.set i r⟩ := by
  refine ⟨by simpa using h.lu, by simpa using h.lr, fun j q hu hr => ?_, fun j q hu hr => ?_, h.nd⟩
  · by_cases hj : i = j
    · subst hj
      have := (List.getElem?_eq_some_iff.1 hu).1
      simp only [List.length_set] at this
      simp [this] at hu
    · simp only [List.getElem?_set_ne hj] at hu hr
      exact h.un j q hu hr
  · by_cases hj : i = j
    · subst hj
      have := (List.getElem?_eq_some_iff.1 hr).1
      simp only [List.length_set] at this
      simp [this] at hr
      subst hr
      exact ⟨h0, h1⟩
    · simp only [List.getElem?_set_ne hj] at hu hr
      exact h.us j q hu hr
theorem Vld.drop {g : Gr} (h : Vld g) (i : Nat) : Vld ⟨g.ns, g.us.set i false, g.rs.set i (-1)⟩ := by
  refine ⟨by simpa using h.lu, by simpa using h.lr, fun j q hu hr => ?_, fun j q hu hr => ?_, h.nd⟩
  · by_cases hj : i = j
    · subst hj
      have := (List.getElem?_eq_some_iff.1 hr).1
      simp only [List.length_set] at this
      simp [this] at hr
      exact hr.symm
    · simp only [List.getElem?_set_ne hj] at hu hr
      exact h.un j q hu hr
  · by_cases hj : i = j
    · subst hj
      have := (List.getElem?_eq_some_iff.1 hu).1
      simp only [List.length_set] at this
      simp [this] at hu
    · simp only [List.getElem?_set_ne hj] at hu hr
      exact h.us j q hu hr
theorem Vld.node {g : Gr} (h : Vld g) (m : Nat) {x : List Int × List Int} (h1 : x.1.length ≤ 15) (h2 : x.2.length ≤ 32) (h3 : ∀ (k : Nat) (r : Int), x.1[k]? = some r → -1 ≤ r ∧ r < g.ns.length) : Vld ⟨g.ns.set m x, g.us, g.rs⟩ := by
  refine ⟨h.lu, h.lr, h.un, fun j q hu hr => by simpa using h.us j q hu hr, fun j y hy => ?_⟩
  simp only [List.length_set]
  by_cases hj : m = j
  · subst hj
    have := (List.getElem?_eq_some_iff.1 hy).1
    simp only [List.length_set] at this
    simp [this] at hy
    subst hy
    exact ⟨h1, h2, h3⟩
  · simp only [List.getElem?_set_ne hj] at hy
    exact h.nd j y hy
theorem Vld.push {g : Gr} (h : Vld g) {x : List Int × List Int} (h1 : x.1.length ≤ 15) (h2 : x.2.length ≤ 32) (h3 : ∀ (k : Nat) (r : Int), x.1[k]? = some r → -1 ≤ r ∧ r < g.ns.length) : Vld ⟨g.ns ++ [x], g.us, g.rs⟩ := by
  refine ⟨h.lu, h.lr, h.un, fun j q hu hr => ?_, fun j y hy => ?_⟩
  · have := h.us j q hu hr
    simp only [List.length_append, List.length_singleton]
    omega
  · simp only [List.length_append, List.length_singleton]
    by_cases hj : j < g.ns.length
    · rw [List.getElem?_append_left hj] at hy
      obtain ⟨k1, k2, k3⟩ := h.nd j y hy
      exact ⟨k1, k2, fun k r hr => by have := k3 k r hr; omega⟩
    · have hl := (List.getElem?_eq_some_iff.1 hy).1
      simp only [List.length_append, List.length_singleton] at hl
      have : j = g.ns.length := by omega
      subst this
      simp at hy
      subst hy
      exact ⟨h1, h2, fun k r hr => by have := h3 k r hr; omega⟩
/-- the node of a handle in use -/
theorem Vld.at_ {g : Gr} (h : Vld g) {i : Nat} (hu : g.us[i]? = some true) : ∃ (m : Nat) (x : List Int × List Int), i < 32 ∧ g.rs[i]? = some (m : Int) ∧ g.ns[m]? = some x := by
  have hi := (List.getElem?_eq_some_iff.1 hu).1
  rw [h.lu] at hi
  have hr : g.rs[i]? = some (g.rs[i]'(by rw [h.lr]; exact hi)) := List.getElem?_eq_getElem _
  have := h.us i _ hu hr
  refine ⟨(g.rs[i]'(by rw [h.lr]; exact hi)).toNat, g.ns[(g.rs[i]'(by rw [h.lr]; exact hi)).toNat]'(by omega), hi, ?_, List.getElem?_eq_getElem _⟩
  rw [hr]
  congr 1
  omega

/-- what an operation keeps -/
structure Keeps (g : Gr) (c : Int) (x : Gr × Int × Int) : Prop where
  v : Vld x.1
  n : x.1.ns.length = if c = 1 ∧ x.2.1 = 0 then g.ns.length + 1 else g.ns.length
  e : x.2.1 ≠ 0 → x.1 = g ∧ x.2.2 = 0
  no : x.2.1 ≠ 18 ∧ x.2.1 ≠ 19
theorem keeps_err {g : Gr} (h : Vld g) {c e : Int} (h0 : e ≠ 0) (h1 : e ≠ 18) (h2 : e ≠ 19) : Keeps g c (g, e, 0) := ⟨h, by simp [h0], fun _ => ⟨rfl, rfl⟩, h1, h2⟩
theorem keeps_same {g : Gr} (h : Vld g) {c v : Int} (hc : c ≠ 1) : Keeps g c (g, 0, v) := ⟨h, by simp [hc], fun h => absurd rfl h, by show (0:Int) ≠ 18; omega, by show (0:Int) ≠ 19; omega⟩
theorem keeps_new {g g' : Gr} (h : Vld g') {c v : Int} (hc : c ≠ 1) (hn : g'.ns.length = g.ns.length) : Keeps g c (g', 0, v) := ⟨h, by simp [hc, hn], fun h => absurd rfl h, by show (0:Int) ≠ 18; omega, by show (0:Int) ≠ 19; omega⟩
theorem hErr_val (g : Gr) (x : Int) (need : Bool) : hErr g x need = 0 ∨ hErr g x need = 14 ∨ hErr g x need = 16 := by
  unfold hErr
  repeat' split
  all_goals simp
theorem hNd_ok {g : Gr} (h : Vld g) {x : Int} {need : Bool} (he : hErr g x need = 0) : -1 ≤ hNd g x ∧ hNd g x < g.ns.length := by
  rcases hErr_ok h.lu he with ⟨rfl, _⟩ | ⟨i, rfl, hi, hu⟩
  · rw [hNd_zero]; omega
  · obtain ⟨m, x, _, hr, hx⟩ := h.at_ hu
    rw [hNd_in g i _ hr]
    have := (List.getElem?_eq_some_iff.1 hx).1
    omega
theorem accT_keeps {g : Gr} (h : Vld g) {m : Nat} {x : List Int × List Int} (hx : g.ns[m]? = some x) {c : Int} (hc : c ≠ 1) (a b d : Int) : Keeps g c (accT g m c a b d) := by
  have hn := h.nd m x hx
  have e : g.ns.getD m ([], []) = x := by rw [List.getD_eq_getElem?_getD, hx]; rfl
  unfold accT
  rw [e]
  split
  · exact keeps_new (h.drop _) hc rfl
  split
  · exact keeps_same h hc
  split
  · split
    · exact keeps_err h (by omega) (by omega) (by omega)
    · exact keeps_same h hc
  split
  · split
    · exact keeps_err h (by omega) (by omega) (by omega)
    · refine keeps_new (h.node m (x := (x.1, x.2.set b.toNat (wrapU d))) hn.1 (by simpa using hn.2.1) hn.2.2) hc ?_
      simp
  split
  · exact keeps_err h (by omega) (by omega) (by omega)
  split
  · split
    · rename_i he
      rcases hErr_val g d false with h1 | h1 | h1
      · exact absurd h1 he
      all_goals exact keeps_err h he (by omega) (by omega)
    · rename_i he
      have he : hErr g d false = 0 := by simpa using he
      have hd := hNd_ok h he
      refine keeps_new (h.node m (x := (x.1.set b.toNat (hNd g d), x.2)) (by simpa using hn.1) hn.2.1 fun k r hr => ?_) hc (List.length_set)
      by_cases hk : b.toNat = k
      · subst hk
        have := (List.getElem?_eq_some_iff.1 hr).1
        simp only [List.length_set] at this
        simp [this] at hr
        subst hr
        exact hd
      · simp only [List.getElem?_set_ne hk] at hr
        exact hn.2.2 k r hr
  rename_i hb _
  have hb' : b.toNat < x.1.length := by omega
  split
  · exact keeps_same h hc
  · rename_i h1
    have ht := hn.2.2 b.toNat _ (List.getElem?_eq_getElem hb')
    have e1 : x.1.getD b.toNat 0 = x.1[b.toNat] := by rw [List.getD_eq_getElem?_getD, List.getElem?_eq_getElem hb']; rfl
    rw [e1] at h1 ⊢
    split
    · exact keeps_new (h.give (by omega) ht.2) hc rfl
    · exact keeps_err h (by omega) (by omega) (by omega)
theorem doT_keeps {g : Gr} (h : Vld g) (c a b d : Int) : Keeps g c (doT g c a b d) := by
  unfold doT
  split
  · rename_i hc
    split
    · exact keeps_err h (by omega) (by omega) (by omega)
    · split
      · refine ⟨?_, by simp [hc], fun h => absurd rfl h, by show (0:Int) ≠ 18; omega, by show (0:Int) ≠ 19; omega⟩
        have h1 := h.push (x := (List.replicate a.toNat (-1), List.replicate b.toNat 0)) (by simp; omega) (by simp; omega) (fun k r hr => by
          simp only [List.getElem?_replicate] at hr
          split at hr
          · injection hr with hr; subst hr; omega
          · cases hr)
        exact h1.give (by show (0:Int) ≤ (g.ns.length : Int); omega) (by simp only [List.length_append, List.length_singleton]; omega)
      · exact keeps_err h (by omega) (by omega) (by omega)
  rename_i hc
  split
  · exact keeps_same h hc
  split
  · exact keeps_same h hc
  split
  · split
    · rename_i he
      rcases hErr_val g a false with h1 | h1 | h1
      · exact absurd h1 he
      all_goals exact keeps_err h he (by omega) (by omega)
    · split
      · rename_i he
        rcases hErr_val g b false with h1 | h1 | h1
        · exact absurd h1 he
        all_goals exact keeps_err h he (by omega) (by omega)
      · exact keeps_same h hc
  split
  · split
    · rename_i he
      rcases hErr_val g a true with h1 | h1 | h1
      · exact absurd h1 he
      all_goals exact keeps_err h he (by omega) (by omega)
    · rename_i he
      have he : hErr g a true = 0 := by simpa using he
      rcases hErr_ok h.lu he with ⟨_, h1⟩ | ⟨i, rfl, hi, hu⟩
      · cases h1
      · obtain ⟨m, x, _, hr, hx⟩ := h.at_ hu
        rw [hNd_in g i _ hr, Int.toNat_natCast]
        exact accT_keeps h hx hc _ _ _
  · exact keeps_err h (by omega) (by omega) (by omega)
end Go.Proofs.Ytamghjilcfeheaa
