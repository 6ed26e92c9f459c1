/- The walk of chain.Go (reference). Conditions: the ranges that each theorem states. -/
import Derived.Test.YtljkadpconghnaaSpcD
namespace Go.Proofs.Ytljkadpconghnaa
open Go.RowKit Go.Draw

/-- the address of word p of a chain -/
def addrN (c : List Nat) (B p : Nat) : Nat := c.getD (p / B) 0 * B + p % B
theorem addr_eq {c : List Nat} {B m g r p : Nat} (hg : c[m]? = some g) (hr : r < B) (hp : m * B + r = p) : addrN c B p = g * B + r := by
  have h1 : p / B = m := by
    rw [← hp, Nat.add_comm, Nat.add_mul_div_right _ _ (by omega), Nat.div_eq_of_lt hr]; omega
  have h2 : p % B = r := by
    rw [← hp, Nat.add_comm, Nat.add_mul_mod_self_right, Nat.mod_eq_of_lt hr]
  unfold addrN
  rw [h1, h2, List.getD_eq_getElem?_getD, hg]
  rfl
theorem place_of {c : List Nat} {B p : Nat} (hB : 0 < B) (hp : p < c.length * B) : ∃ m g r, c[m]? = some g ∧ r < B ∧ m * B + r = p := by
  have h1 : p / B < c.length := (Nat.div_lt_iff_lt_mul hB).2 hp
  refine ⟨p / B, c[p / B], p % B, List.getElem?_eq_getElem h1, Nat.mod_lt _ hB, ?_⟩
  rw [Nat.mul_comm]; exact Nat.div_add_mod p B
def RetAddr (w : World) (a : Nat) (r : Ending) (w' : World) : Prop := r = .returned (.tuple #[.int .i64 (a : Int), .int .i64 0]) ∧ Ext w w'

set_option maxRecDepth 100000 in
set_option maxHeartbeats 2000000 in
theorem go_any (A Bf : Option Addr) (a b : Nat) (S : Sp) (L : List Ch) (x : Ch) (B p k : Nat) (w : World) (h : SRd w S A Bf) (hS : Chs S L) (hx : x ∈ L) (hB : 2 ^ S.sh = B) (hp : p + k < x.c.length * B) :
    Calls Try.prog 62 #[spV S A a Bf b, .int .i64 (addrN x.c B p : Nat), .int .i64 k] w (RetAddr w (addrN x.c B (p + k))) := by
  have hsh := hS.sh.2
  have hn2 := hS.n2.2
  have hb1 := (pow_bd hS.sh).1
  have hb2 := (pow_bd hS.sh).2
  have hwl := hS.wl
  rw [hB] at hb1 hb2 hwl
  have hlc : x.c.length * B ≤ 64 * 256 := Nat.mul_le_mul (by have := hS.len_ch hx; omega) hb2
  obtain ⟨m0, g0, r0, hg0, hr0, hp0⟩ := place_of (c := x.c) (B := B) (p := p) (by omega) (by omega)
  rw [addr_eq hg0 hr0 hp0]
  have hS0 := hS.fr x hx m0 g0 hg0
  have hgl := hS.lt hx hg0
  have hw1 : (g0 + 1) * B ≤ S.fs.length * B := Nat.mul_le_mul_right _ (by omega)
  have hw2 : S.fs.length * B ≤ 64 * 256 := Nat.mul_le_mul (by omega) hb2
  rw [Nat.succ_mul] at hw1
  have hdiv : (g0 * B + r0) / B = g0 := by rw [Nat.add_comm, Nat.add_mul_div_right _ _ (by omega), Nat.div_eq_of_lt hr0]; omega
  have hmod : (g0 * B + r0) % B = r0 := by rw [Nat.add_comm, Nat.add_mul_mod_self_right, Nat.mod_eq_of_lt hr0]
  obtain ⟨t, ht⟩ : ∃ t, g0 * B + r0 = t := ⟨_, rfl⟩
  have hmask := bits_mask t B S.sh hB (by omega) hsh
  rw [ht] at hdiv hmod ⊢
  rw [hmod] at hmask
  have hdivI : (t : Int) / (B : Int) = (g0 : Int) := by rw [← Int.natCast_ediv, hdiv]
  have htl : t < S.ws.length := by omega
  have hB' : (2 : Int) ^ S.sh = B := by rw [← hB]; simp
  have s1 : (S.sh : Int).toNat = S.sh := by omega
  obtain ⟨T, hT⟩ : ∃ T, p + k = T := ⟨_, rfl⟩
  have hTk : m0 * B + r0 + k = T := by omega
  rw [hT] at hp ⊢
  have HTk := Lib.hid hTk
  have hkb : k ≤ T := by omega
  have HS := Lib.hid hS
  have Hx := Lib.hid hx
  obtain ⟨bF, oF, rfl, c0, c1, c2⟩ := fr_at h.F hS0
  have hq : x.q ≠ -1 := by have := (hS.ids x hx).1; omega
  have hq' : (x.q == -1) = false := by simpa using hq
  have lF := cell_lt c0
  have hF := h.F
  have Hg0 := Lib.hid hg0
  have Ht := Lib.hid ht
  have HwL := Lib.hid hwl
  have e1 : decide ((t : Int) < 0) = false := by simp
  have e2 : decide ((S.ws.length : Int) ≤ t) = false := by simp; omega
  have e2' : decide (S.ws.length ≤ t) = false := by simp; omega
  have e3 : decide ((k : Int) < 0) = false := by simp
  have htb : t < 20000 := by omega
  have gI : (g0 : Int) < S.fs.length := by omega
  clear hB ht hdiv hmod hwl hT hp0 hS hx hg0 hS0 hq hTk hw1
  unfold spV
  go_enter Try.func62, Try.ntmps62
  go_upto_region 3 with fail
  have k0 : Blk (w.alloc (.cells #[.int .i64 S.sh, .slice A S.ws.length a, .slice (some ⟨bF, oF, none⟩) S.fs.length b] 35)) w.heap.size 35 #[.int .i64 S.sh, .slice A S.ws.length a, .slice (some ⟨bF, oF, none⟩) S.fs.length b] := Blk.new rfl
  have hE0 : Ext w (w.alloc (.cells #[.int .i64 S.sh, .slice A S.ws.length a, .slice (some ⟨bF, oF, none⟩) S.fs.length b] 35)) := by (repeat (first | (with_reducible exact Ext.refl _) | assumption | (with_reducible refine Ext.alloc ?_ _) | (with_reducible refine Ext.drew ?_) | (with_reducible refine Ext.drewL ?_) | refine Ext.trans ?_ (by assumption)))
  generalize w.alloc (.cells #[.int .i64 S.sh, .slice A S.ws.length a, .slice (some ⟨bF, oF, none⟩) S.fs.length b] 35) = W at k0 hE0 ⊢
  generalize w.heap.size = b0 at k0 ⊢
  have cB := k0.cell
  have lB := k0.lt
  have d0 := cell_ext hE0 c0
  have d1 := cell_ext hE0 c1
  have d2 := cell_ext hE0 c2
  have lF' := cell_lt d0
  refine wp_region_ext [(true, 0), (true, 1), (true, 2), (true, 3), (true, 4), (true, 5), (true, 6), (true, 7), (true, 8), (true, 9), (true, 10), (true, 11), (true, 12), (true, 13)] Try.mixed (by kernel_rfl) (by simp only [pick, List.filterMap_cons, List.filterMap_nil, List.getElem?_toArray, List.getElem?_cons_succ, List.getElem?_cons_zero, Option.map_some]; rfl) ?_
  intro hx
  repeat (first
    | (refine wpL_take hx (v := ?_) (by rfl) (fun _ hc => ?_) ?_
       rotate_left
       focus (go_simp; (try go_ints); exact rfl)
       simp only [Act.put, List.setIfInBounds_toArray, List.set_cons_zero, List.set_cons_succ])
    | (refine wpL_skip (by rfl) ?_; simp only [Act.put, List.setIfInBounds_toArray, List.set_cons_zero, List.set_cons_succ])
    | (refine wpL_call (by rfl) (fun K hK => ?_); go_simp; (first | (refine hK _ _ ?_ ?_; (focus ((repeat (first | (with_reducible exact Ext.refl _) | assumption | (with_reducible refine Ext.alloc ?_ _) | (with_reducible refine Ext.drew ?_) | (with_reducible refine Ext.drewL ?_) | refine Ext.trans ?_ (by assumption))); done))) | (refine hK undef _ ?_ ?_; (focus ((repeat (first | (with_reducible exact Ext.refl _) | assumption | (with_reducible refine Ext.alloc ?_ _) | (with_reducible refine Ext.drew ?_) | (with_reducible refine Ext.drewL ?_) | refine Ext.trans ?_ (by assumption))); done)))); clear hK; intro hr; replace hx := hx.trans hr; clear hr; try simp only [Act.put, List.setIfInBounds_toArray, List.set_cons_zero, List.set_cons_succ]))
  refine wpL_end ?_
  go_wp2_with fail
  clear c0 c1 c2 d0 d1 d2 cB lB lF lF' hmask hdivI hgl hlc hw2 htl htb e1 e2 e2' e3
  go_loopw [2, 8, 9] (fun sj sg sr wr => ∃ m r j g : Nat, x.c[m]? = some g ∧ r < B ∧ m * B + r + j = T ∧ sj = .int .i64 j ∧ sg = .int .i64 g ∧ sr = .int .i64 r ∧ wr = W.drew) (fun sj _ _ _ => (intOf sj).toNat)
  case atStart => exact ⟨m0, r0, k, g0, Hg0.out, hr0, HTk.out, rfl, rfl, rfl, rfl⟩
  case round =>
    obtain ⟨m, r, j, g, hg, hr, hTj, rfl, rfl, rfl, rfl⟩ := hrel
    have cB := k0.cell
    have lB := k0.lt
    have hS0 := HS.out.fr x Hx.out m g hg
    obtain ⟨bG, oG, he, c0, c1, c2⟩ := fr_at (hF.ext hE0) hS0
    simp only [Option.some.injEq, Addr.mk.injEq, and_true] at he
    obtain ⟨rfl, rfl⟩ := he
    have hgl := HS.out.lt Hx.out hg
    have gI : (g : Int) < S.fs.length := by omega
    have lF := cell_lt c0
    have hm1 : (g + 1) * B ≤ S.fs.length * B := Nat.mul_le_mul_right _ (by omega)
    have hw2 : S.fs.length * B ≤ 64 * 256 := Nat.mul_le_mul (by omega) hb2
    rw [Nat.succ_mul] at hm1
    have hlc : x.c.length * B ≤ 64 * 256 := Nat.mul_le_mul (by have := HS.out.len_ch Hx.out; omega) hb2
    have hgb : (g : Int) * B ≤ 16384 := by have : ((g * B : Nat) : Int) ≤ 16384 := by omega
                                           rwa [Int.natCast_mul] at this
    have hgb0 : 0 ≤ (g : Int) * B := Int.mul_nonneg (by omega) (by omega)
    have hjb : j ≤ 20000 := by omega
    by_cases hlt : B ≤ r + j
    · have h1 : m + 1 < x.c.length := by
        have h2 : (m + 1) * B < x.c.length * B := by rw [Nat.succ_mul]; omega
        exact Nat.lt_of_mul_lt_mul_right h2
      have hg' : x.c[m + 1]? = some x.c[m + 1] := List.getElem?_eq_getElem h1
      generalize x.c[m + 1] = g' at hg'
      rw [posI_some hg'] at c2
      have hgl' := HS.out.lt Hx.out hg'
      have hT' : (m + 1) * B + 0 + (j - (B - r)) = T := by rw [Nat.succ_mul]; omega
      have HT' := Lib.hid hT'
      have Hg' := Lib.hid hg'
      have ed : decide ((B : Int) - r ≤ j) = true := by simp; omega
      have ne : ((g' : Int) == -1) = false := by simp
      have hrI : (r : Int) < B := by omega
      clear hT' hg' hg hS0 hTj hw2 hlc hm1 h1
      go_wp2
      go_roundw
      case rel => exact ⟨m + 1, 0, j - (B - r), g', Hg'.out, by omega, HT'.out, by rw [show (((j - (B - r) : Nat)) : Int) = (j : Int) - ((B : Int) - r) by omega], rfl, rfl, trivial⟩
      case measure => simp [intOf]; omega
    · have had := addr_eq hg (show r + j < B by omega) (show m * B + (r + j) = T by omega)
      have Had := Lib.hid had
      have ed : decide ((B : Int) - r ≤ j) = false := by simp; omega
      have hrI : (r : Int) < B := by omega
      clear hg hS0 hTj hw2 hlc hm1 had
      go_wp2
      go_ret2
      unfold RetAddr
      rw [Had.out, show ((g * B + (r + j) : Nat) : Int) = (g : Int) * B + r + j by rw [Int.natCast_add, Int.natCast_mul, Int.natCast_add]; omega]
      exact ⟨rfl, by (repeat (first | (with_reducible exact Ext.refl _) | assumption | (with_reducible refine Ext.alloc ?_ _) | (with_reducible refine Ext.drew ?_) | (with_reducible refine Ext.drewL ?_) | refine Ext.trans ?_ (by assumption)))⟩
end Go.Proofs.Ytljkadpconghnaa
