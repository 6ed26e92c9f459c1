/- The walk of mk.Table. Conditions: the ranges that each theorem states. -/
import Derived.Test.YtgjgnokfmjeekaaO
import Derived.Test.YtgjgnokfmjeekaaTree
import Derived.Deep.DeepCutAuto
import Derived.LoopN
import Derived.Deep.CutBlock
namespace Go.Proofs.Ytgjgnokfmjeekaa
open Go.RowKit Go.Draw

theorem But.fresh {S : List Nat} {a w : World} (h : But S a w) {p : Addr} (hp : a.heap.size ≤ p.block) (u : Value) : But S a (w.setCell p u) :=
  ⟨h.os, h.tape, h.output, by simpa [World.setCell] using h.size, fun k hk hn => by
    rw [RowKit.Below.heap_setCell _ _ _ _ (fun e => by omega)]
    exact h.block k hk hn⟩
/-- block x holds a valid table, its entries lie behind block d and not in x -/
def Tb (w : World) (d x : Nat) : Prop :=
  ∃ (g g' c c' : Nat) (us : List Bool) (rs : List Int), Blk w x 30 #[.slice (some ⟨g, 0, none⟩) 32 c, .slice (some ⟨g', 0, none⟩) 32 c'] ∧ Rd w (some ⟨g, 0, none⟩) 32 1 (bools us) ∧ Rd w (some ⟨g', 0, none⟩) 32 1 (words rs) ∧ validT us rs = true ∧ d < g ∧ d < g' ∧ g ≠ x ∧ g' ≠ x
theorem Tb.but {w w' : World} {d g x : Nat} (h : Tb w g x) (he : But [d] w w') (hg : d < g) (hx : d < x) : Tb w' g x := by
  obtain ⟨b, b', c, c', us, rs, h1, h2, h3, h4, h5, h6, h7⟩ := h
  refine ⟨b, b', c, c', us, rs, h1.but he (by simp; omega), h2.but he (fun ad ha => ?_), h3.but he (fun ad ha => ?_), h4, h5, h6, h7⟩
  · injection ha with ha; subst ha; simp; omega
  · injection ha with ha; subst ha; simp; omega
theorem Tb.ext {w w' : World} {d x : Nat} (h : Tb w d x) (he : Ext w w') : Tb w' d x := by
  obtain ⟨b, b', c, c', us, rs, h1, h2, h3, h4⟩ := h
  exact ⟨b, b', c, c', us, rs, h1.ext he, h2.ext he, h3.ext he, h4⟩

theorem okAt_set {us : List Bool} {rs : List Int} {i j : Nat} {b : Bool} {v : Int} (h : okAt us rs j = true) (hi : i < us.length) (hi' : i < rs.length) (hb : (b || v == 0) = true) : okAt (us.set i b) (rs.set i v) j = true := by
  unfold okAt at *
  simp only [List.getD_eq_getElem?_getD, List.getElem?_set] at *
  by_cases e : i = j
  · subst e; simpa [hi, hi'] using hb
  · simpa [e] using h
theorem valid_set {us : List Bool} {rs : List Int} {i : Nat} {b : Bool} {v : Int} (h : validT us rs = true) (hi : i < 32) (hb : (b || v == 0) = true) : validT (us.set i b) (rs.set i v) = true := by
  obtain ⟨h1, h2⟩ := valid_len h
  refine valid_yes _ _ (by simpa using h1) (by simpa using h2) fun j hj => okAt_set ?_ (by omega) (by omega) hb
  simp only [validT, Bool.and_eq_true, List.all_eq_true, List.mem_range] at h
  exact h.2 j hj

/-- where no error is told, a new valid table -/
def Gd (w w' : World) (A B : Option Addr) (n : Nat) (er : Int) : Prop :=
  er = 0 → ∃ (g g' : Nat) (us : List Bool) (rs : List Int), n = 32 ∧ A = some ⟨g, 0, none⟩ ∧ B = some ⟨g', 0, none⟩ ∧ w.heap.size ≤ g ∧ g < w'.heap.size ∧ w.heap.size ≤ g' ∧ g' < w'.heap.size ∧ validT us rs = true ∧ Rd w' A 32 1 (bools us) ∧ Rd w' B 32 1 (words rs)
theorem gd_of {w w' : World} {A B : Option Addr} {us : List Bool} {rs : List Int} {c d : Nat} (hv : validT us rs = true) (hA : w'.ownsRow w.heap.size 4 1 (.slice A us.length c) us.length (bools us)) (hB : w'.ownsRow w.heap.size 32 1 (.slice B rs.length d) rs.length (words rs)) :
    us.length = 32 ∧ rs.length = 32 ∧ Gd w w' A B 32 0 := by
  obtain ⟨h1, h2⟩ := valid_len hv
  rw [h1] at hA
  rw [h2] at hB
  obtain ⟨g, rfl, a1, a2⟩ := own_form hA (by omega)
  obtain ⟨g', rfl, b1, b2⟩ := own_form hB (by omega)
  exact ⟨h1, h2, fun _ => ⟨g, g', us, rs, rfl, rfl, rfl, a1, a2, b1, b2, hv, Rd.of_own hA, Rd.of_own hB⟩⟩
theorem rtake_tab (A A' : Option Addr) (n m c c' : Nat) (us : List Bool) (rs : List Int) (v : Int) (w : World) (hu : Rd w A n 1 (bools us)) (hr : Rd w A' m 1 (words rs)) (hv : validT us rs = true) :
    Calls Try.prog 23 #[.agg #[.slice A n c, .slice A' m c'], .int .u64 v] w fun e w' => ∃ A c B d n h er, e = .returned (.tuple #[.agg #[.slice A n c, .slice B n d], .int .i64 h, .int .i64 er]) ∧ Gd w w' A B n er ∧ Ext w w' := by
  refine (rtake_any A A' n m c c' us rs v w hu hr).mono ?_
  obtain ⟨k1, k2⟩ := valid_len hv
  rintro e w' ⟨B, d, B', d', rfl, h1, h2, h3⟩
  by_cases hf : us.idxOf false < us.length
  · have ht : takeT us rs v = (us.set (us.idxOf false) true, rs.set (us.idxOf false) v, (us.idxOf false : Int) + 1, 0) := by simp [takeT, hv, hf]
    rw [ht] at h1 h2 ⊢
    obtain ⟨a1, a2, a3⟩ := gd_of (valid_set hv (by omega) rfl) h1 h2
    simp only [a1, a2]
    exact ⟨_, _, _, _, _, _, _, rfl, a3, h3⟩
  · have ht : takeT us rs v = ([], [], 0, 15) := by simp [takeT, hv, hf]
    rw [ht] at h1 h2 ⊢
    exact ⟨_, _, _, _, _, _, _, rfl, fun h => absurd h (by decide), h3⟩
theorem rdrop_tab (A A' : Option Addr) (n m c c' : Nat) (us : List Bool) (rs : List Int) (h : Int) (w : World) (hu : Rd w A n 1 (bools us)) (hr : Rd w A' m 1 (words rs)) (hv : validT us rs = true) :
    Calls Try.prog 28 #[.agg #[.slice A n c, .slice A' m c'], .int .i64 h] w fun e w' => ∃ A c B d n er, e = .returned (.tuple #[.agg #[.slice A n c, .slice B n d], .int .i64 er]) ∧ Gd w w' A B n er ∧ Ext w w' := by
  refine (rdrop_any A A' n m c c' us rs h w hu hr).mono ?_
  obtain ⟨k1, k2⟩ := valid_len hv
  rintro e w' ⟨B, d, B', d', rfl, h1, h2, h3⟩
  by_cases hc : checkT us rs h = 0
  · have ht : dropT us rs h = (us.set (h - 1).toNat false, rs.set (h - 1).toNat 0, 0) := by simp [dropT, hc]
    rw [ht] at h1 h2 ⊢
    have hh : (h - 1).toNat < 32 := by
      simp only [checkT, hv, if_true] at hc
      split at hc
      · rename_i q; omega
      · exact absurd hc (by decide)
    obtain ⟨a1, a2, a3⟩ := gd_of (valid_set hv hh rfl) h1 h2
    simp only [a1, a2]
    exact ⟨_, _, _, _, _, _, rfl, a3, h3⟩
  · have ht : dropT us rs h = ([], [], checkT us rs h) := by simp [dropT, hc]
    rw [ht] at h1 h2 ⊢
    exact ⟨_, _, _, _, _, _, rfl, fun h => absurd h hc, h3⟩

end Go.Proofs.Ytgjgnokfmjeekaa
