/- Spaces in memory; the walks of shift, stamped, Clone, Copy and Ceil. Conditions: the ranges that each theorem states. -/
import Derived.Test.YtljkadpconghnaaRows
import Derived.WalkKit
import Derived.WalkSpells
import Derived.WalkLawsBesides
import Derived.Lib.Hide
import Derived.RegionTactic
import Derived.Deep.DeepCutAuto
import Derived.Test.YtljkadpconghnaaMem
import Derived.Test.YtljkadpconghnaaTree
import Derived.Test.YtljkadpconghnaaSpcA
namespace Go.Proofs.Ytljkadpconghnaa
open Go.RowKit Go.Draw

theorem Try.mixed : Try.prog.follows .mixedOrders = true := by kernel_rfl
theorem ret_int {k : IntKind} {a b : Int} (h : a = b) : Ending.returned (.int k a) = .returned (.int k b) := by rw [h]
theorem ret_bool {a b : Bool} (h : a = b) : Ending.returned (.bool a) = .returned (.bool b) := by rw [h]
def ints (zs : List Int) : List Value := zs.map (.int .i64)
def words (zs : List Int) : List Value := zs.map (.int .u64)
theorem ints_len (l : List Int) : (ints l).length = l.length := by simp [ints]
theorem words_len (l : List Int) : (words l).length = l.length := by simp [words]
theorem ints_at {l : List Int} {i : Nat} {z : Int} (h : l[i]? = some z) : (ints l)[i]? = some (.int .i64 z) := by simp [ints, h]
theorem words_at {l : List Int} {i : Nat} {z : Int} (h : l[i]? = some z) : (words l)[i]? = some (.int .u64 z) := by simp [words, h]
theorem words_set (l : List Int) (i : Nat) (z : Int) : words (l.set i z) = (words l).set i (.int .u64 z) := by simp [words, List.map_set]
theorem one_ints (zs : List Int) : ∀ u ∈ ints zs, u.oneCell' = true := by
  intro u hu; simp only [ints, List.mem_map] at hu; obtain ⟨z, _, rfl⟩ := hu; rfl
theorem one_words (zs : List Int) : ∀ u ∈ words zs, u.oneCell' = true := by
  intro u hu; simp only [words, List.mem_map] at hu; obtain ⟨z, _, rfl⟩ := hu; rfl
theorem Try.elW : Elem Try.prog 32 92 (.int .u64 0) 1 8 := ⟨Try.underlying32, by kernel_rfl, rfl, by omega⟩
theorem Try.elI : Elem Try.prog 31 3 (.int .i64 0) 1 8 := ⟨Try.underlying31, by kernel_rfl, rfl, by omega⟩
theorem Try.elF : Elem Try.prog 33 43 (.agg #[.int .i64 0, .int .i64 0, .int .i64 0]) 3 24 := ⟨Try.underlying33, by kernel_rfl, rfl, by omega⟩

/-- a space that reads -/
structure SRd (w : World) (S : Sp) (A B : Option Addr) : Prop where
  W : Rd w A S.ws.length 1 (words S.ws)
  F : Rd w B S.fs.length 3 (frs S.fs)
theorem SRd.ext {w w' : World} {S : Sp} {A B : Option Addr} (h : SRd w S A B) (he : Ext w w') : SRd w' S A B := ⟨h.W.ext he, h.F.ext he⟩
/-- a space of the call's own -/
structure SOw (w : World) (base : Nat) (S : Sp) (gW cW gF cF : Nat) : Prop where
  W : w.ownsRow base 92 1 (.slice (some ⟨gW, 0, none⟩) S.ws.length cW) S.ws.length (words S.ws)
  F : w.ownsRow base 43 3 (.slice (some ⟨gF, 0, none⟩) S.fs.length cF) S.fs.length (frs S.fs)
section
variable {w w' : World} {base gW cW gF cF : Nat} {S : Sp}
theorem SOw.rd (h : SOw w base S gW cW gF cF) : SRd w S (some ⟨gW, 0, none⟩) (some ⟨gF, 0, none⟩) := ⟨Rd.of_own h.W, Rd.of_own h.F⟩
theorem SOw.ext (h : SOw w base S gW cW gF cF) (he : Ext w w') : SOw w' base S gW cW gF cF := ⟨own_ext h.W he, own_ext h.F he⟩
theorem SOw.base_ (h : SOw w base S gW cW gF cF) {b : Nat} (hb : b ≤ base) : SOw w b S gW cW gF cF := ⟨own_base h.W hb, own_base h.F hb⟩
theorem SOw.ne (h : SOw w base S gW cW gF cF) : gW ≠ gF := own_ne h.W h.F (by decide)
theorem SOw.lt (h : SOw w base S gW cW gF cF) : base ≤ gW ∧ gW < w.heap.size ∧ base ≤ gF ∧ gF < w.heap.size := by
  have h1 := World.ownsRow.lt h.W gW rfl
  have h2 := World.ownsRow.lt h.F gF rfl
  exact ⟨h1.1, h1.2, h2.1, h2.2⟩
theorem SOw.but (h : SOw w base S gW cW gF cF) {X : List Nat} (he : But X w w') (h1 : gW ∉ X) (h2 : gF ∉ X) : SOw w' base S gW cW gF cF :=
  ⟨own_but h.W he (fun g hg => by simp only [Value.ownBlock, Option.some.injEq] at hg; subst hg; exact h1), own_but h.F he (fun g hg => by simp only [Value.ownBlock, Option.some.injEq] at hg; subst hg; exact h2)⟩
end
theorem fr_at {w : World} {A : Option Addr} {n : Nat} {l : List Fr} (h : Rd w A n 3 (frs l)) {k : Nat} {F : Fr} (hk : l[k]? = some F) :
    ∃ b o, A = some ⟨b, o, none⟩ ∧ w.cell? ⟨b, o + k * 3, none⟩ = some (.int .i64 F.o) ∧ w.cell? ⟨b, o + k * 3 + 1, none⟩ = some (.int .i64 F.s) ∧ w.cell? ⟨b, o + k * 3 + 2, none⟩ = some (.int .i64 F.n) := by
  have hl := (List.getElem?_eq_some_iff.1 hk).1
  have h1 := h.1
  rw [frs_len] at h1
  obtain ⟨b, o, rfl, hc⟩ := h.2 (by omega)
  obtain ⟨a1, a2, a3⟩ := frs_at l k F hk
  exact ⟨b, o, rfl, hc _ _ a1, hc _ _ a2, hc _ _ a3⟩
theorem wd_at {w : World} {A : Option Addr} {n : Nat} {l : List Int} (h : Rd w A n 1 (words l)) {k : Nat} {z : Int} (hk : l[k]? = some z) :
    ∃ b o, A = some ⟨b, o, none⟩ ∧ w.cell? ⟨b, o + k, none⟩ = some (.int .u64 z) := by
  have hl := (List.getElem?_eq_some_iff.1 hk).1
  have h1 := h.1
  rw [words_len] at h1
  obtain ⟨b, o, rfl, hc⟩ := h.2 (by omega)
  exact ⟨b, o, rfl, hc _ _ (words_at hk)⟩
theorem pow_bd {sh : Nat} (h : 3 ≤ sh ∧ sh ≤ 8) : 8 ≤ 2 ^ sh ∧ 2 ^ sh ≤ 256 := by
  obtain ⟨h1, h2⟩ := h
  exact ⟨Nat.pow_le_pow_right (n := 2) (by omega) h1, Nat.pow_le_pow_right (n := 2) (by omega) h2⟩

set_option maxHeartbeats 400000 in
theorem shift_any (sh : Nat) (w : World) (h : 3 ≤ sh ∧ sh ≤ 8) : Calls Try.prog 35 #[.int .i64 sh] w fun r w' => r = .returned (.bool true) ∧ w = w' := by
  obtain ⟨h1, h2⟩ := h
  have a1 : (3 : Int) ≤ sh := by omega
  have a2 : (sh : Int) ≤ 8 := by omega
  have d1 : decide ((3 : Int) ≤ sh) = true := by simpa using a1
  have d2 : decide ((sh : Int) ≤ 8) = true := by simpa using a2
  go_enter Try.func35, Try.ntmps35
  go_wp2
  go_ret
  exact ⟨rfl, rfl⟩

/-- how many frames n words fill -/
def ceilN (n B : Nat) : Nat := (n + B - 1) / B
set_option maxHeartbeats 400000 in
theorem ceil_any (n B sh : Nat) (w : World) (hB : 2 ^ sh = B) (h8 : sh ≤ 8) (hn : n ≤ 1000000) (h1 : 1 ≤ B) (h2 : B ≤ 256) :
    Calls Try.prog 72 #[.int .i64 n, .int .i64 sh] w fun r w' => r = .returned (.int .i64 (ceilN n B : Nat)) ∧ w = w' := by
  have hB' : (2 : Int) ^ sh = B := by rw [← hB]; simp
  have s1 : (sh : Int).toNat = sh := by omega
  clear hB
  go_enter Try.func72, Try.ntmps72
  go_wp2
  go_ret
  refine ⟨ret_int ?_, rfl⟩
  unfold ceilN
  rw [Int.natCast_ediv]
  congr 1
  omega

set_option maxRecDepth 100000 in
set_option maxHeartbeats 1000000 in
theorem stamped_any (q b n : Int) (w : World) (h1 : 0 ≤ q) (h2 : q ≤ 4294967295) (h3 : 0 ≤ b) (h4 : b < 4) :
    Calls Try.prog 63 #[.agg #[.int .i64 q, .int .i64 (b * 4294967296 + q), .int .i64 n]] w fun r w' => r = .returned (.bool true) ∧ Ext w w' := by
  have d1 : decide (q < 0) = false := by simpa using h1
  have d2 : decide (4294967295 < q) = false := by simpa using h2
  go_enter Try.func63, Try.ntmps63
  go_wp2
  go_loopw [3] (fun i wr => ∃ k : Nat, (k : Int) ≤ b ∧ i = .int .i64 k ∧ wr = w.alloc (.cells #[.int .i64 q, .int .i64 (b * 4294967296 + q), .int .i64 n] 43)) (fun i _ => 4 - (intOf i).toNat)
  case atStart => exact ⟨0, by omega, rfl, rfl⟩
  case round =>
    obtain ⟨k, hk, rfl, rfl⟩ := hrel
    have d3 : decide ((k : Int) < 4) = true := by simp; omega
    have d4 : decide (k < 4) = true := by simp; omega
    have hkb : (k : Int) < 4 := by omega
    by_cases hkb2 : (k : Int) = b
    · subst hkb2
      go_wp2
      go_ret
      exact ⟨rfl, by (repeat (first | (with_reducible exact Ext.refl _) | assumption | (with_reducible refine Ext.alloc ?_ _) | (with_reducible refine Ext.drew ?_) | (with_reducible refine Ext.drewL ?_) | refine Ext.trans ?_ (by assumption)))⟩
    · have d5 : ((b * 4294967296 + q) == (q + (k : Int) * 4294967296)) = false := by simp; omega
      go_wp2
      all_goals first
        | (exfalso; omega)
        | skip
      go_roundw
      case rel => exact ⟨k + 1, by omega, by go_num, trivial⟩
      case measure => simp [intOf]; omega

set_option maxHeartbeats 400000 in
theorem clone_any (A : Option Addr) (c : Nat) (ws : List Int) (w : World) (hr : Rd w A ws.length 1 (words ws)) (hn : ws.length ≤ 100000) :
    Calls Try.prog 58 #[.slice A ws.length c] w fun r w' => ∃ A' c', r = .returned (.slice A' ws.length c') ∧ w'.ownsRow w.heap.size 92 1 (.slice A' ws.length c') ws.length (words ws) ∧ Ext w w' := by
  go_enter Try.func58, Try.ntmps58
  go_wp2_with (first | (at_builtin; refine wpList_clone rfl Try.elW _ _ rfl rfl _ A _ c (words ws) rfl hr (one_words ws) (by omega) (by omega) (Nat.le_refl _) ?_; intro A' c' w1 hA' hE1))
  go_ret
  exact ⟨_, _, rfl, hA', hE1⟩
def spV (S : Sp) (A : Option Addr) (a : Nat) (B : Option Addr) (b : Nat) : Value := .agg #[.int .i64 S.sh, .slice A S.ws.length a, .slice B S.fs.length b]
end Go.Proofs.Ytljkadpconghnaa
