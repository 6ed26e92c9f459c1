/- The walk of frame.Valid (reference): a space of chains is valid. Conditions: the ranges that each theorem states. -/
import Derived.Test.YtljkadpconghnaaSpcF
namespace Go.Proofs.Ytljkadpconghnaa
open Go.RowKit Go.Draw

def nxI (fs : List Fr) (k j : Nat) : Int := if (fs.take k).any (fun F => F.n == (j : Int)) then 1 else 0
def nxA (fs : List Fr) (k : Nat) : Array Value := ((List.range 64).map fun j => Value.int .i64 (nxI fs k j)).toArray
theorem nxI_zero (fs : List Fr) (k j : Nat) (h : ∀ i F, i < k → fs[i]? = some F → F.n ≠ (j : Int)) : nxI fs k j = 0 := by
  unfold nxI
  rw [if_neg]
  simp only [List.any_eq_true, beq_iff_eq, not_exists, not_and]
  intro F hF
  obtain ⟨i, hi⟩ := List.mem_iff_getElem?.1 hF
  rw [List.getElem?_take] at hi
  split at hi
  · exact h i F (by assumption) hi
  · cases hi
theorem nxA_at {fs : List Fr} {k j : Nat} (hj : j < 64) : (nxA fs k)[j]? = some (.int .i64 (nxI fs k j)) := by
  unfold nxA
  rw [List.getElem?_toArray, List.getElem?_map, List.getElem?_range hj]
  rfl
theorem nxI_succ {fs : List Fr} {k : Nat} {F : Fr} (hF : fs[k]? = some F) (j : Nat) : nxI fs (k + 1) j = if F.n = (j : Int) then 1 else nxI fs k j := by
  unfold nxI
  rw [List.take_add_one, hF]
  simp only [Option.toList, List.any_append, List.any_cons, List.any_nil, Bool.or_false, Bool.or_eq_true, beq_iff_eq]
  by_cases h : F.n = (j : Int)
  · rw [if_pos (Or.inr h), if_pos h]
  · rw [if_neg h]
    by_cases h2 : ((fs.take k).any fun F => F.n == (j : Int)) = true
    · rw [if_pos (Or.inl h2), if_pos h2]
    · rw [if_neg h2, if_neg (by rintro (h3 | h3); exact h2 h3; exact h h3)]
theorem nxA_keep {fs : List Fr} {k : Nat} {F : Fr} (hF : fs[k]? = some F) (hn : F.n = -1) : nxA fs (k + 1) = nxA fs k := by
  unfold nxA
  congr 1
  apply List.map_congr_left
  intro j _
  rw [nxI_succ hF, if_neg (by omega)]
theorem nxA_set {fs : List Fr} {k g : Nat} {F : Fr} (hF : fs[k]? = some F) (hn : F.n = (g : Int)) (hg : g < 64) : nxA fs (k + 1) = (nxA fs k).setIfInBounds g (.int .i64 1) := by
  unfold nxA
  rw [List.setIfInBounds_toArray]
  congr 1
  apply List.ext_getElem?
  intro j
  rw [List.getElem?_set, List.getElem?_map, List.getElem?_map]
  by_cases hj : g = j
  · subst hj
    rw [if_pos rfl, if_pos (by simp; omega), List.getElem?_range hg]
    simp only [Option.map_some]
    rw [nxI_succ hF, if_pos hn]
  · rw [if_neg hj]
    by_cases hjl : j < 64
    · rw [List.getElem?_range hjl]
      simp only [Option.map_some]
      rw [nxI_succ hF, if_neg (by omega)]
    · rw [List.getElem?_eq_none (by simp; omega)]
      rfl

theorem blk_of_ext {w w' : World} {cs : Array Value} {t : TypeId} (h : Ext (w.alloc (.cells cs t)) w') : Blk w' w.heap.size t cs := (Blk.new rfl).ext h
set_option maxRecDepth 100000 in
set_option maxHeartbeats 4000000 in
theorem valid_any (A Bf : Option Addr) (a b : Nat) (S : Sp) (L : List Ch) (w : World) (h : SRd w S A Bf) (hS : Chs S L) :
    Calls Try.prog 45 #[spV S A a Bf b] w fun r w' => r = .returned (.bool true) ∧ Ext w w' := by
  have hsh := hS.sh
  obtain ⟨B, hB⟩ : ∃ B, 2 ^ S.sh = B := ⟨_, rfl⟩
  have hb1 := (pow_bd hS.sh).1
  have hb2 := (pow_bd hS.sh).2
  have hwl := hS.wl
  have hzero := hS.zero
  rw [hB] at hb1 hb2 hwl hzero
  obtain ⟨hn1, hn2⟩ := hS.n2
  have hfB : S.fs.length * B ≤ 64 * 256 := Nat.mul_le_mul (by omega) hb2
  have hB' : (2 : Int) ^ S.sh = B := by rw [← hB]; simp
  have s1 : (S.sh : Int).toNat = S.sh := by omega
  have hfBI : (S.fs.length : Int) * B ≤ 16384 := by
    have : ((S.fs.length * B : Nat) : Int) ≤ 16384 := by omega
    rwa [Int.natCast_mul] at this
  have hfB0 : 0 ≤ (S.fs.length : Int) * B := Int.mul_nonneg (by omega) (by omega)
  have e1 : decide ((S.fs.length : Int) < 2) = false := by simp; omega
  have e2 : decide ((64 : Int) < S.fs.length) = false := by simp; omega
  have e3 : ((S.ws.length : Int) == (S.fs.length : Int) * B) = true := by rw [hwl, Int.natCast_mul]; simp
  have HS := Lib.hid hS
  have Hz := Lib.hid hzero
  have Hwl := Lib.hid hwl
  clear hB hwl hzero hS
  unfold spV
  go_enter Try.func45, Try.ntmps45
  go_upto_region 4 with (first | (go_at_call 35; refine (shift_any _ _ hsh).mono ?_; rintro e w1 ⟨rfl, rfl⟩))
  go_cut [1, 3, 4] (fun t1 t3 t4 wx => t1 = .pointer (some ⟨w.heap.size, 0, none⟩) ∧ t3 = .int .i64 S.fs.length ∧ t4 = .pointer (some ⟨w.heap.size + 1, 0, none⟩) ∧ Ext w wx ∧ Blk wx w.heap.size 35 #[.int .i64 S.sh, .slice A S.ws.length a, .slice Bf S.fs.length b] ∧ Blk wx (w.heap.size + 1) 99 (nxA S.fs 0))
  case first =>
    go_wp2
    go_meet
    exact ⟨rfl, rfl, rfl, by (repeat (first | (with_reducible exact Ext.refl _) | assumption | (with_reducible refine Ext.alloc ?_ _) | (with_reducible refine Ext.drew ?_) | (with_reducible refine Ext.drewL ?_) | refine Ext.trans ?_ (by assumption))), Blk.alloc (Blk.new rfl) _, Blk.new (by simp)⟩
  case rest =>
    obtain ⟨rfl, rfl, rfl, hEx, k0, kN⟩ := hcut
    have cB := k0.cell
    have lB := k0.lt
    go_wp2_with fail
    go_loopw [41] (fun s wr => ∃ k : Nat, k ≤ S.fs.length ∧ s = .int .i64 k ∧ Ext w wr ∧ Blk wr w.heap.size 35 #[.int .i64 S.sh, .slice A S.ws.length a, .slice Bf S.fs.length b] ∧ Blk wr (w.heap.size + 1) 99 (nxA S.fs k)) (fun s _ => S.fs.length - (intOf s).toNat)
    case atStart => exact ⟨0, by omega, rfl, hEx, k0, kN⟩
    case round =>
      clear hEx k0 kN cB lB
      obtain ⟨k, hk, rfl, hE, k0', kN'⟩ := hrel
      have cB := k0'.cell
      have lB := k0'.lt
      have cN := kN'.cell
      have lN := kN'.lt
      have fN := kN'.froz
      by_cases hlt : k < S.fs.length
      · have hdec : decide ((k : Int) < S.fs.length) = true := by simp; omega
        have hdec' : decide (k < S.fs.length) = true := by simp; omega
        have hkI : (k : Int) < S.fs.length := by omega
        obtain ⟨F, hF0⟩ : ∃ F, S.fs[k]? = some F := ⟨_, List.getElem?_eq_getElem hlt⟩
        obtain ⟨bF, oF, rfl, c0, c1, c2⟩ := fr_at (h.F.ext hE) hF0
        have lF := cell_lt c0
        rcases HS.out.cases hF0 with ⟨rfl, hu⟩ | ⟨x, hx, p, hp, rfl⟩
        · simp only [freeF] at c0 c1 c2
          have Hk := Lib.hid (nxA_keep hF0 rfl)
          have Hzk := Lib.hid (fun j (hj : j < B) => Hz.out k hlt hu j hj)
          clear hF0 hu
          have hkB : (k + 1) * B ≤ S.fs.length * B := Nat.mul_le_mul_right _ (by omega)
          rw [Nat.succ_mul] at hkB
          have hkBI : (k : Int) * B + B ≤ 16384 := by
            have : ((k * B + B : Nat) : Int) ≤ 16384 := by omega
            rwa [Int.natCast_add, Int.natCast_mul] at this
          have hkB0 : 0 ≤ (k : Int) * B := Int.mul_nonneg (by omega) (by omega)
          have hsucc : ((k : Int) + 1) * B = (k : Int) * B + B := by rw [Int.add_mul]; simp
          go_wp2_with fail
          have hEa := Ext.alloc (Ext.refl wr) (.cells #[.int .i64 (-1), .int .i64 (-1), .int .i64 (-1)] 43)
          generalize wr.alloc (.cells #[.int .i64 (-1), .int .i64 (-1), .int .i64 (-1)] 43) = Wc at hEa ⊢
          replace hE := hE.trans hEa
          replace k0' := k0'.ext hEa
          replace kN' := kN'.ext hEa
          clear cB lB cN lN fN hEa c0 c1 c2 lF
          have cB := k0'.cell
          have lB := k0'.lt
          go_loop [7] (fun s => ∃ t : Nat, k * B ≤ t ∧ t ≤ k * B + B ∧ s = .int .i64 t) (fun s => k * B + B - (intOf s).toNat)
          case atStart => exact ⟨k * B, by omega, by omega, by rw [Int.natCast_mul]⟩
          case round =>
            obtain ⟨t, ht1, ht2, rfl⟩ := hrel
            by_cases htl : t < k * B + B
            · have hz := Hzk.out (t - k * B) (by omega)
              rw [show k * B + (t - k * B) = t by omega] at hz
              obtain ⟨bW, oW, rfl, z0⟩ := wd_at (h.W.ext hE) hz
              have lW := cell_lt z0
              have htw : (t : Int) < S.ws.length := by have := Hwl.out; omega
              have dt : decide ((t : Int) < (k : Int) * B + B) = true := by
                have : ((t : Nat) : Int) < ((k * B + B : Nat) : Int) := by omega
                rw [Int.natCast_add, Int.natCast_mul] at this
                simpa using this
              have htb : t ≤ 20000 := by omega
              clear hz
              go_wp2
              go_round
              case rel => exact ⟨t + 1, by omega, by omega, by go_num⟩
              case measure => simp [intOf]; omega
            · have dt : decide ((t : Int) < (k : Int) * B + B) = false := by
                have : ((k * B + B : Nat) : Int) ≤ ((t : Nat) : Int) := by omega
                rw [Int.natCast_add, Int.natCast_mul] at this
                simpa using this
              go_wp2
              go_roundw
              case rel => exact ⟨k + 1, by omega, by go_num, hE, k0', by rw [Hk.out]; exact kN'⟩
              case measure => simp [intOf]; omega
        · obtain ⟨hx1, hx2, hx3, hx4⟩ := HS.out.ids x hx
          simp only [Ch.st] at c0 c1 c2
          have hq : (x.q == -1) = false := by simp; omega
          rcases posI_cases x.c (p + 1) with ⟨g, hg, hgI⟩ | ⟨hg, hgI⟩
          · rw [hgI] at c2 hF0
            have Hg := Lib.hid (HS.out.fr x hx (p + 1) g hg)
            have hgl := HS.out.lt hx hg
            have hgk : ((g : Int) == (k : Int)) = false := by
              have : g ≠ k := fun e => by
                subst e
                have := nodup_at (nodup_of_mem hx HS.out.nd) hp hg
                omega
              simp; omega
            have hgI2 : (g : Int) < S.fs.length := by omega
            have hg64 : (g : Int) < 64 := by omega
            have n1 : decide ((g : Int) < -1) = false := by (first | omega | (simp; done) | (simp; omega))
            have n2 : decide ((S.fs.length : Int) ≤ g) = false := by (first | omega | (simp; done) | (simp; omega))
            have n2' : decide (S.fs.length ≤ g) = false := by simp; omega
            have n3 : ((g : Int) == -1) = false := by simp
            have hn0 : (nxA S.fs k)[g]? = some (.int .i64 0) := by
              rw [nxA_at (by omega), nxI_zero]
              intro i G hi hG he
              have := HS.out.inj hG hF0 he (by rw [he]; omega)
              omega
            have Hset := Lib.hid (nxA_set (g := g) hF0 rfl (by omega))
            clear hF0 hg hgI hp
            go_wp2_with (first | (go_at_call 63; refine (stamped_any x.q x.b _ _ hx1 hx2 hx3 hx4).mono ?_; rintro e w1 ⟨rfl, hE1⟩; have hEF := (Ext.alloc (Ext.refl wr) _).trans hE1; have kbox := k0'.ext hEF; have knx := kN'.ext hEF; have cbox := kbox.cell; have lbox := kbox.lt; have cnx := knx.cell; have lnx := knx.lt; have fnx := knx.froz; have kfr := blk_of_ext hE1; have cfr := kfr.cell; have lfr := kfr.lt; obtain ⟨bG, oG, he, g0, g1, g2⟩ := fr_at (h.F.ext (hE.trans hEF)) Hg.out; simp only [Option.some.injEq, Addr.mk.injEq, and_true] at he; obtain ⟨rfl, rfl⟩ := he; simp only [Ch.st] at g1; have lG := cell_lt g0))
            go_roundw
            case rel => exact ⟨k + 1, by omega, by go_num, Ext.alloc (Ext.setCell (hE.trans hEF) (by simp) _) _, Blk.alloc (kbox.far (by simp) _) _, by rw [Hset.out]; exact Blk.alloc (knx.set_ g _) _⟩
            case measure => simp [intOf]; omega
          · rw [hgI] at c2 hF0
            have Hk := Lib.hid (nxA_keep hF0 rfl)
            clear hF0 hg hgI hp
            have n1 : decide ((-1 : Int) < -1) = false := by decide
            have n2 : decide ((S.fs.length : Int) ≤ -1) = false := by (first | omega | (simp; done) | (simp; omega))
            have n3 : ((-1 : Int) == (k : Int)) = false := by (first | omega | (simp; done) | (simp; omega))
            go_wp2_with (first | (go_at_call 63; refine (stamped_any x.q x.b _ _ hx1 hx2 hx3 hx4).mono ?_; rintro e w1 ⟨rfl, hE1⟩; have hEF := (Ext.alloc (Ext.refl wr) _).trans hE1; have kbox := k0'.ext hEF; have knx := kN'.ext hEF; have cbox := kbox.cell; have lbox := kbox.lt; have cnx := knx.cell; have lnx := knx.lt; have fnx := knx.froz; have kfr := blk_of_ext hE1; have cfr := kfr.cell; have lfr := kfr.lt))
            go_roundw
            case rel => exact ⟨k + 1, by omega, by go_num, hE.trans hEF, kbox, by rw [Hk.out]; exact knx⟩
            case measure => simp [intOf]; omega
      · have hdec : decide ((k : Int) < S.fs.length) = false := by simp; omega
        have hdec' : decide (k < S.fs.length) = false := by simp; omega
        clear kN' cN lN fN
        go_wp2_with fail
        go_loopw [138] (fun s wr => ∃ i : Nat, i ≤ S.fs.length ∧ s = .int .i64 i ∧ Ext w wr ∧ Blk wr w.heap.size 35 #[.int .i64 S.sh, .slice A S.ws.length a, .slice Bf S.fs.length b]) (fun s _ => S.fs.length - (intOf s).toNat)
        case atStart => exact ⟨0, by omega, rfl, hE, k0'⟩
        case round =>
          clear hE k0' cB lB
          obtain ⟨i, hi, rfl, hE, k0'⟩ := hrel
          have cB := k0'.cell
          have lB := k0'.lt
          by_cases hlt : i < S.fs.length
          · have hdec : decide ((i : Int) < S.fs.length) = true := by simp; omega
            have hdec' : decide (i < S.fs.length) = true := by simp; omega
            obtain ⟨c, p, hp, hcl, hc⟩ := HS.out.run hlt
            have Hc := Lib.hid hc
            have hp0 := posI_some hp
            have hpl := (List.getElem?_eq_some_iff.1 hp).1
            have Hp0 := Lib.hid hp0
            clear hc hp hp0
            go_wp2_with fail
            go_loop [10, 11] (fun f s => ∃ m : Nat, p + m ≤ c.length ∧ f = .int .i64 (posI c (p + m)) ∧ s = .int .i64 m) (fun _ s => c.length + 1 - (intOf s).toNat)
            case atStart => exact ⟨0, by omega, by rw [Nat.add_zero, Hp0.out], rfl⟩
            case round =>
              obtain ⟨m, hm, rfl, rfl⟩ := hrel
              have d1 : decide ((m : Int) ≤ S.fs.length) = true := by simp; omega
              have d1' : decide (m ≤ S.fs.length) = true := by simp; omega
              rcases posI_cases c (p + m) with ⟨g, hg, hgI⟩ | ⟨hg, hgI⟩
              · rw [hgI]
                obtain ⟨G, hG, hGn⟩ := Hc.out (p + m) g hg
                have hgl := (List.getElem?_eq_some_iff.1 hG).1
                have hgl2 := (List.getElem?_eq_some_iff.1 hg).1
                have hgI2 : (g : Int) < S.fs.length := by omega
                obtain ⟨bG, oG, rfl, g0, g1, g2⟩ := fr_at (h.F.ext hE) hG
                rw [hGn] at g2
                have lG := cell_lt g0
                have n3 : ((g : Int) == -1) = false := by simp
                have n3' : ((g : Int) != -1) = true := by simp
                clear hG hGn hg hgI
                go_wp2
                go_round
                case rel => exact ⟨m + 1, by omega, by rw [Nat.add_assoc], by go_num⟩
                case measure => simp [intOf]; omega
              · rw [hgI]
                clear hgI hg
                have n3' : ((-1 : Int) != -1) = false := by decide
                go_wp2
                go_roundw
                case rel => exact ⟨i + 1, by omega, by go_num, hE, k0'⟩
                case measure => simp [intOf]; omega
          · have hdec : decide ((i : Int) < S.fs.length) = false := by simp; omega
            have hdec' : decide (i < S.fs.length) = false := by simp; omega
            go_wp2
            go_ret
            exact ⟨rfl, hE⟩
end Go.Proofs.Ytljkadpconghnaa
