/- The walks of chain.Chain and chain.Go (references). Conditions: the ranges that each theorem states. -/
import Derived.Test.YtljkadpconghnaaSpcC
namespace Go.Proofs.Ytljkadpconghnaa
open Go.RowKit Go.Draw

theorem bits_mask (a B sh : Nat) (hB : 2 ^ sh = B) (ha : a < 1000000) (hs : sh ≤ 8) : bits .and .i64 (a : Int) ((B : Int) - 1) = ((a % B : Nat) : Int) := by
  subst hB
  have hp : 2 ^ sh ≤ 256 := Nat.pow_le_pow_right (n := 2) (by omega) hs
  have h0 : 0 < 2 ^ sh := Nat.pow_pos (by omega)
  have e : ((2 ^ sh : Nat) : Int) - 1 = ((2 ^ sh - 1 : Nat) : Int) := by omega
  rw [e]
  have hm : a % 2 ^ sh ≤ a := Nat.mod_le _ _
  have h2 : ∀ x y : Int, bits .and .i64 x y = IntKind.i64.wrap ((BitVec.ofInt 64 x &&& BitVec.ofInt 64 y).toNat : Int) := fun _ _ => rfl
  rw [h2]
  have h1 : (BitVec.ofInt 64 (a : Int) &&& BitVec.ofInt 64 ((2 ^ sh - 1 : Nat) : Int)).toNat = a % 2 ^ sh := by
    rw [BitVec.toNat_and]
    simp only [BitVec.ofInt_natCast, BitVec.toNat_ofNat]
    rw [Nat.mod_eq_of_lt (show a < 2 ^ 64 by omega), Nat.mod_eq_of_lt (show 2 ^ sh - 1 < 2 ^ 64 by omega), Nat.and_two_pow_sub_one_eq_mod]
  rw [h1]
  generalize a % 2 ^ sh = r at hm ⊢
  clear h1 h2 e
  simp only [IntKind.wrap, IntKind.bits, IntKind.signed]
  simp
  omega
theorem but_grown {w w' : World} {o : Option Nat} (h : w.grownBy w' o) : But o.toList w w' := by
  refine ⟨h.os, h.tape, h.output, h.size, fun k hk hn => h.block k hk (fun e => hn ?_)⟩
  rw [← e]; simp
/-- a block below a row's base is none of the row's -/
theorem own_out {w : World} {base : Nat} {e : TypeId} {size n : Nat} {v : Value} {xs : List Value} (h : w.ownsRow base e size v n xs) {b : Nat} (hb : b < base) : b ∉ v.ownBlock.toList := fun hm => by
  have := (World.ownsRow.lt h b (by simpa using hm)).1
  omega

def lenS : Value → Nat
  | .slice _ n _ => n
  | _ => 0
set_option maxRecDepth 100000 in
set_option maxHeartbeats 1000000 in
theorem chain_any (A B : Option Addr) (a b : Nat) (S : Sp) (c : List Nat) (w : World) (h : SRd w S A B) (h4 : S.fs.length ≤ 64) (hc : ∀ m g : Nat, c[m]? = some g → ∃ F, S.fs[g]? = some F ∧ F.n = posI c (m + 1)) (hl : c.length ≤ 64) :
    Calls Try.prog 70 #[spV S A a B b, .int .i64 (posI c 0)] w (RetInts w c) := by
  unfold spV
  have hF := h.F
  have Hc := Lib.hid hc
  clear hc
  go_enter Try.func70, Try.ntmps70
  go_wp2
  have k0 : Blk (w.alloc (.cells #[.int .i64 S.sh, .slice A S.ws.length a, .slice B S.fs.length b] 35)) w.heap.size 35 #[.int .i64 S.sh, .slice A S.ws.length a, .slice B S.fs.length b] := Blk.new rfl
  go_loopw [5, 6] (fun s f wr => ∃ (k : Nat) (D : Option Addr) (d : Nat), k ≤ c.length ∧ f = .int .i64 (posI c k) ∧ s = .slice D k d ∧ wr.ownsRow (w.heap.size + 1) 3 1 (.slice D k d) k (ints (natI (c.take k))) ∧ Ext w wr ∧ Blk wr w.heap.size 35 #[.int .i64 S.sh, .slice A S.ws.length a, .slice B S.fs.length b]) (fun s _ _ => c.length + 1 - lenS s)
  case atStart => exact ⟨0, none, 0, by omega, rfl, rfl, own_nil _ _ _ _, by (repeat (first | (with_reducible exact Ext.refl _) | assumption | (with_reducible refine Ext.alloc ?_ _) | (with_reducible refine Ext.drew ?_) | (with_reducible refine Ext.drewL ?_) | refine Ext.trans ?_ (by assumption))), k0⟩
  case round =>
    clear k0
    obtain ⟨k, D, d, hk, rfl, rfl, hown, hE, k0⟩ := hrel
    have hsz := hE.size_le
    have cB := k0.cell
    have lB := k0.lt
    by_cases hlt : k < c.length
    · have hg : c[k]? = some c[k] := List.getElem?_eq_getElem hlt
      generalize hgv : c[k] = g at hg
      clear hgv
      rw [posI_some hg]
      obtain ⟨F, hF0, hFn⟩ := Hc.out k g hg
      have hgl := (List.getElem?_eq_some_iff.1 hF0).1
      have hgI : (g : Int) < S.fs.length := by omega
      have hne : ((g : Int) == -1) = false := by simp
      have hne' : ((g : Int) != -1) = true := by simp
      have hts : c.take (k + 1) = c.take k ++ [g] := by rw [List.take_add_one, hg]; rfl
      have Hts := Lib.hid hts
      clear hts hg
      obtain ⟨bF, oF, rfl, c0, c1, c2⟩ := fr_at (hF.ext hE) hF0
      rw [hFn] at c2
      have lF := cell_lt c0
      have Hf := Lib.hid hF0
      have Hn := Lib.hid hFn
      clear hF0 hFn
      go_wp2_with (first | (at_builtin; refine wpList_append rfl Try.elI _ _ rfl (w.heap.size + 1) _ _ _ rfl (own_alloc hown _) _ 1 1 _ rfl (rd_one _ _ _) (by simp [Value.oneCell']) (by omega) (by omega) (by (first | omega | (simp; done) | (simp; omega))) ?_; intro A2 a2 w2 hown2 hg2 hat2; have hE2 : Ext w w2 := ext_grown (by (repeat (first | (with_reducible exact Ext.refl _) | assumption | (with_reducible refine Ext.alloc ?_ _) | (with_reducible refine Ext.drew ?_) | (with_reducible refine Ext.drewL ?_) | refine Ext.trans ?_ (by assumption)))) hg2 (own_alloc hown _) (by omega); have k2 := Blk.but (k0.alloc _) (but_grown hg2) (own_out hown (by omega)); have cB2 := k2.cell; have lB2 := k2.lt; obtain ⟨bG, oG, he, d0, d1, d2⟩ := fr_at (hF.ext hE2) Hf.out; simp only [Option.some.injEq, Addr.mk.injEq, and_true] at he; obtain ⟨rfl, rfl⟩ := he; rw [Hn.out] at d2; have lG := cell_lt d0))
      rw [natI_snoc, ← Hts.out] at hown2
      go_wp2
      go_roundw
      case rel => exact ⟨k + 1, A2, a2, by omega, rfl, rfl, hown2, hE2, k2⟩
      case measure => simp [lenS]; omega
    · have hke : k = c.length := by omega
      have hd : decide (posI c k ≠ -1) = false := by rw [hke, posI_none (Nat.le_refl _)]; decide
      rw [hke, posI_none (Nat.le_refl _)]
      rw [hke, List.take_length] at hown
      have hne' : ((-1 : Int) != -1) = false := by decide
      go_wp2
      go_ret
      exact ⟨D, d, rfl, own_base hown (by omega), hE⟩
end Go.Proofs.Ytljkadpconghnaa
