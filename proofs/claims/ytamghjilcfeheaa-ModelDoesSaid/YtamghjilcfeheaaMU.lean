/- What is reached: sets of nodes that are seen. Plain facts, no walk. The walk of the reference's Reach. Conditions: the ranges that each theorem states. The walk of the reference's Live. Conditions: the ranges that each theorem states. -/
import Derived.Test.YtamghjilcfeheaaG
import Derived.Test.YtamghjilcfeheaaKK
namespace Go.Proofs.Ytamghjilcfeheaa
open Go.RowKit Go.Draw

theorem count_mark : ∀ {s : List Bool} {i : Nat}, s[i]? = some false → (s.set i true).count false + 1 = s.count false
  | [], i, h => by simp at h
  | b :: s, 0, h => by simp at h; subst h; simp
  | b :: s, i + 1, h => by
    have := count_mark (s := s) (i := i) (by simpa using h)
    simp only [List.set_cons_succ, List.count_cons]; omega
theorem get_mark {s : List Bool} {x i : Nat} : (s.set x true)[i]? = some true ↔ (i = x ∧ x < s.length) ∨ s[i]? = some true := by
  by_cases h : x = i
  · subst h
    by_cases hl : x < s.length
    · simp [hl]
    · simp [hl]
  · rw [List.getElem?_set_ne h]
    constructor
    · exact Or.inr
    · rintro (⟨h1, _⟩ | h1)
      · exact absurd h1.symm h
      · exact h1

structure Snd (g : Gr) (s : List Bool) : Prop where
  len : s.length = g.ns.length
  snd : ∀ i, s[i]? = some true → Rch g i
def RootsIn (g : Gr) (s : List Bool) (k : Nat) : Prop := ∀ (i n : Nat), i < k → g.us[i]? = some true → g.rs[i]? = some (n : Int) → s[n]? = some true
def ClosedTo (g : Gr) (s : List Bool) (k : Nat) : Prop := ∀ (m n j : Nat) (x : List Int × List Int), m < k → s[m]? = some true → g.ns[m]? = some x → x.1[j]? = some (n : Int) → s[n]? = some true
theorem Snd.mark {g : Gr} {s : List Bool} (h : Snd g s) {x : Nat} (hx : Rch g x) : Snd g (s.set x true) :=
  ⟨by simpa using h.len, fun i hi => by
    rcases get_mark.1 hi with ⟨rfl, _⟩ | h1
    · exact hx
    · exact h.snd i h1⟩
theorem snd_none (g : Gr) : Snd g (List.replicate g.ns.length false) := ⟨by simp, fun i hi => by
  simp only [List.getElem?_replicate] at hi
  split at hi <;> cases hi⟩
theorem RootsIn.mark {g : Gr} {s : List Bool} {k : Nat} (h : RootsIn g s k) (x : Nat) : RootsIn g (s.set x true) k :=
  fun i n hi hu hr => get_mark.2 (.inr (h i n hi hu hr))
theorem RootsIn.next {g : Gr} {s : List Bool} {k : Nat} (h : RootsIn g s k) (hk : g.us[k]? = some true → ∀ n : Nat, g.rs[k]? = some (n : Int) → s[n]? = some true) : RootsIn g s (k + 1) :=
  fun i n hi hu hr => by
    rcases Nat.lt_or_ge i k with h1 | h1
    · exact h i n h1 hu hr
    · have : i = k := by omega
      subst this
      exact hk hu n hr
theorem ClosedTo.next {g : Gr} {s : List Bool} {k : Nat} (h : ClosedTo g s k) (hk : ∀ (n j : Nat) (x : List Int × List Int), s[k]? = some true → g.ns[k]? = some x → x.1[j]? = some (n : Int) → s[n]? = some true) : ClosedTo g s (k + 1) :=
  fun m n j x hm h1 h2 h3 => by
    rcases Nat.lt_or_ge m k with h4 | h4
    · exact h m n j x h4 h1 h2 h3
    · have : m = k := by omega
      subst this
      exact hk n j x h1 h2 h3
theorem reach_done {g : Gr} {s : List Bool} (h : Snd g s) (hr : RootsIn g s g.us.length) (hc : ClosedTo g s g.ns.length) (n : Nat) : s[n]? = some true ↔ Rch g n := by
  refine ⟨h.snd n, fun hn => ?_⟩
  induction hn with
  | root h1 h2 => exact hr _ _ (List.getElem?_eq_some_iff.1 h1).1 h1 h2
  | step _ h1 h2 ih => exact hc _ _ _ _ (List.getElem?_eq_some_iff.1 h1).1 ih h1 h2

/-- those of the first k that are seen -/
def seenTo (s : List Bool) (k : Nat) : List Nat := (List.range k).filter fun i => s.getD i false
theorem seenTo_yes {s : List Bool} {k : Nat} (h : s[k]? = some true) : seenTo s (k + 1) = seenTo s k ++ [k] := by
  unfold seenTo
  rw [List.range_succ, List.filter_append]
  simp [List.getD_eq_getElem?_getD, h]
theorem seenTo_no {s : List Bool} {k : Nat} (h : s[k]? = some false) : seenTo s (k + 1) = seenTo s k := by
  unfold seenTo
  rw [List.range_succ, List.filter_append]
  simp [List.getD_eq_getElem?_getD, h]
theorem seenTo_len (s : List Bool) (k : Nat) : (seenTo s k).length ≤ k := by
  have := List.length_filter_le (fun i => s.getD i false) (List.range k)
  simpa [seenTo] using this
theorem seenTo_all {g : Gr} {s : List Bool} (h : Snd g s) (hd : ∀ n, s[n]? = some true ↔ Rch g n) : seenTo s g.ns.length = reachL g := by
  unfold seenTo reachL
  apply List.filter_congr
  intro i hi
  have hl : i < s.length := by rw [h.len]; simpa using hi
  have h1 : s[i]? = some s[i] := List.getElem?_eq_getElem hl
  rw [List.getD_eq_getElem?_getD, h1, Option.getD_some]
  cases hs : s[i] with
  | true => exact (rchB_true.2 ((hd i).1 (by rw [h1, hs]))).symm
  | false =>
    cases hb : rchB g i with
    | false => rfl
    | true =>
      have := (hd i).2 (rchB_true.1 hb)
      rw [h1, hs] at this
      cases this
def nats (l : List Nat) : List Int := l.map Int.ofNat
theorem reachL_lt {g : Gr} {n : Nat} (h : n ∈ reachL g) : n < g.ns.length := by
  unfold reachL at h
  simpa using (List.mem_filter.1 h).1
theorem reachL_len (g : Gr) : (reachL g).length ≤ g.ns.length := by
  have := List.length_filter_le (rchB g) (List.range g.ns.length)
  simpa [reachL] using this
theorem sum_snoc (g : Gr) (l : List Nat) (n : Nat) : sumL g (l ++ [n]) = sumL g l + wordsOf (g.ns.getD n ([], [])) := by simp [sumL]
theorem sum_le {g : Gr} (hb : ∀ (i : Nat) (x : List Int × List Int), g.ns[i]? = some x → x.1.length ≤ 3000 ∧ x.2.length ≤ 3000) : ∀ l : List Nat, sumL g l ≤ 6001 * l.length
  | [] => by simp [sumL]
  | n :: l => by
    have ih := sum_le hb l
    have h1 : wordsOf (g.ns.getD n ([], [])) ≤ 6001 := by
      rw [List.getD_eq_getElem?_getD]
      cases hx : g.ns[n]? with
      | none => simp [wordsOf]
      | some x =>
        have := hb n x hx
        simp only [Option.getD_some, wordsOf]
        omega
    simp only [sumL, List.map_cons, List.sum_cons, List.length_cons] at ih ⊢
    omega
/-- a valid graph's references lie in it -/
theorem Rch.lt {g : Gr} (h : Vld g) {n : Nat} (hn : Rch g n) : n < g.ns.length := by
  cases hn with
  | root h1 h2 => have := (h.us _ _ h1 h2).2; omega
  | step _ h1 h2 => have := ((h.nd _ _ h1).2.2 _ _ h2).2; omega

/-- how many of the first n bools of a block are false -/
def isF : Value → Bool
  | .bool false => true
  | _ => false
def unseen (w : World) (b n : Nat) : Nat :=
  match w.heap[b]? with
  | some (.cells cs _ _) => (cs.toList.take n).countP isF
  | _ => 0
theorem vb_count : ∀ s : List Bool, (vb s).countP isF = s.count false
  | [] => rfl
  | b :: s => by
    have ih := vb_count s
    unfold vb at ih ⊢
    rw [List.map_cons, List.countP_cons, ih]
    cases b <;> simp [isF]
theorem unseen_own {w : World} {base b n c : Nat} {s : List Bool} (h : w.ownsRow base 4 1 (.slice (some ⟨b, 0, none⟩) n c) n (vb s)) : unseen w b n = s.count false := by
  rcases h.2 with ⟨h0, _⟩ | ⟨g, cap, cur, hv, _, hg, hnc, _, hcs, htake⟩
  · cases h0
  · simp only [Value.slice.injEq, Option.some.injEq, Addr.mk.injEq, and_true, true_and] at hv
    obtain ⟨rfl, _⟩ := hv
    unfold unseen
    rw [hg]
    simp only [Nat.mul_one] at htake
    simp only [htake]
    exact vb_count s
end Go.Proofs.Ytamghjilcfeheaa

namespace Go.Proofs.Ytamghjilcfeheaa
open Go.RowKit Go.Draw

/-- a list of ints that the call owns -/
def RetInts (w : World) (zs : List Int) (r : Ending) (w' : World) : Prop :=
  ∃ A c, r = .returned (.slice A zs.length c) ∧ w'.ownsRow w.heap.size 3 1 (.slice A zs.length c) zs.length (ints zs) ∧ Ext w w'
theorem nats_len (l : List Nat) : (nats l).length = l.length := by simp [nats]
theorem nats_snoc (l : List Nat) (k : Nat) : ints (nats l) ++ [.int .i64 (k : Int)] = ints (nats (l ++ [k])) := by simp [ints, nats]

theorem GRd.rows {W : World} {A0 B0 C0 : Option Addr} {n0 n1 n2 a0 b0 c0 : Nat} {g : Gr} (h : GRd W (.agg #[.slice A0 n0 a0, .slice B0 n1 b0, .slice C0 n2 c0]) g) : Rd W B0 g.us.length 1 (vb g.us) ∧ Rd W C0 g.rs.length 1 (ints g.rs) := by
  obtain ⟨A, a, B, b, C, c, ps, hv, h1, h2, h3, h4⟩ := h
  simp only [Value.agg.injEq, Array.mk.injEq, List.cons.injEq, Value.slice.injEq, and_true] at hv
  obtain ⟨⟨rfl, rfl, rfl⟩, ⟨rfl, rfl, rfl⟩, ⟨rfl, rfl, rfl⟩⟩ := hv
  exact ⟨h2, h3⟩
theorem rd_vb {W : World} {A : Option Addr} {s : List Bool} {k : Nat} {u : Bool} (h : Rd W A s.length 1 (vb s)) (hk : s[k]? = some u) : ∃ b o, A = some ⟨b, o, none⟩ ∧ W.cell? ⟨b, o + k, none⟩ = some (.bool u) := by
  have hl := (List.getElem?_eq_some_iff.1 hk).1
  obtain ⟨b, o, v, hA, hu, hc⟩ := h.at_ hl
  rw [vb_at hk] at hu
  injection hu with hu
  subst hu
  exact ⟨b, o, hA, hc⟩
theorem rd_ints {W : World} {A : Option Addr} {s : List Int} {k : Nat} {u : Int} (h : Rd W A s.length 1 (ints s)) (hk : s[k]? = some u) : ∃ b o, A = some ⟨b, o, none⟩ ∧ W.cell? ⟨b, o + k, none⟩ = some (.int .i64 u) := by
  have hl := (List.getElem?_eq_some_iff.1 hk).1
  obtain ⟨b, o, v, hA, hu, hc⟩ := h.at_ hl
  rw [ints_at hk] at hu
  injection hu with hu
  subst hu
  exact ⟨b, o, hA, hc⟩
theorem own_mark {w : World} {base b n c x : Nat} {s : List Bool} (h : w.ownsRow base 4 1 (.slice (some ⟨b, 0, none⟩) n c) n (vb s)) : (w.setCell ⟨b, x, none⟩ (.bool true)).ownsRow base 4 1 (.slice (some ⟨b, 0, none⟩) n c) n (vb (s.set x true)) := by
  rw [vb_set]; exact own_set h x _

def bnat : Value → Nat
  | .bool true => 1
  | _ => 0

set_option maxRecDepth 100000 in
set_option maxHeartbeats 4000000 in
theorem reach17_any (v : Value) (g : Gr) (w : World) (hg : GRd w v g) (hv : Vld g) (hb : g.ns.length ≤ 1000) : Calls Try.prog 17 #[v] w (RetInts w (nats (reachL g))) := by
  obtain ⟨A0, a0, B0, b0, C0, c0, rfl⟩ := hg.sl
  have hlu := Lib.hid hv.lu
  have hlr := Lib.hid hv.lr
  have Hv := Lib.hid hv
  have mk := fun W : World => run_mk (P := Try.prog) Try.el24 rfl g.ns.length (by omega) (by omega) W
  clear hv
  go_enter Try.func17, Try.ntmps17
  go_upto_region 1 with fail
  have hX := Ext.alloc (Ext.refl w) (.cells #[.slice A0 g.ns.length a0, .slice B0 g.us.length b0, .slice C0 g.rs.length c0] 26)
  have k1 : Blk (w.alloc (.cells #[.slice A0 g.ns.length a0, .slice B0 g.us.length b0, .slice C0 g.rs.length c0] 26)) w.heap.size 26 #[.slice A0 g.ns.length a0, .slice B0 g.us.length b0, .slice C0 g.rs.length c0] := Blk.new rfl
  generalize hW : w.alloc (.cells #[.slice A0 g.ns.length a0, .slice B0 g.us.length b0, .slice C0 g.rs.length c0] 26) = W at hX k1 ⊢
  clear hW
  have hgW := hg.ext hX
  have m1 := k1.cell
  have l1 := k1.lt
  have hsz := hX.size_le
  go_upto_region 2 with fail
  have hS0 : (W.alloc (.cells (Array.replicate g.ns.length (Value.bool false)) 4)).ownsRow W.heap.size 4 1 (.slice (some ⟨W.heap.size, 0, none⟩) g.ns.length g.ns.length) g.ns.length (vb (List.replicate g.ns.length false)) := by
    have := own_new (base := W.heap.size) (w := W) (cs := List.replicate g.ns.length (Value.bool false)) (e := 4) (size := 1) (n := g.ns.length) rfl (Nat.le_refl _) (by omega) (by simp)
    simpa [vb] using this
  have hX2 : Ext W (W.alloc (.cells (Array.replicate g.ns.length (Value.bool false)) 4)) := Ext.alloc (Ext.refl _) _
  generalize hW2 : W.alloc (.cells (Array.replicate g.ns.length (Value.bool false)) 4) = W2 at hX2 hS0 ⊢
  clear hW2
  obtain ⟨bs, hbs⟩ : ∃ bs, bs = W.heap.size := ⟨_, rfl⟩
  rw [← hbs] at hS0
  rw [← hbs]
  have hbs' : W.heap.size ≤ bs := by omega
  replace hS0 := own_base hS0 hbs'
  have hub : g.us.length ≤ 1000 := by have := hlu.out; omega
  clear hbs m1
  have m1 := (k1.ext hX2).cell
  obtain ⟨hU0, hC0⟩ := hgW.rows
  clear mk
  go_wp2_with fail
  go_loopw [21] (fun i wr => ∃ (k : Nat) (s : List Bool), k ≤ g.us.length ∧ i = .int .i64 k ∧ wr.ownsRow W.heap.size 4 1 (.slice (some ⟨bs, 0, none⟩) g.ns.length g.ns.length) g.ns.length (vb s) ∧ Ext W wr ∧ Snd g s ∧ RootsIn g s k) (fun i _ => g.us.length - (intOf i).toNat)
  case atStart => exact ⟨0, _, by omega, rfl, hS0, hX2, snd_none g, fun i n hi => by omega⟩
  case round =>
    clear hS0 hX2 m1
    obtain ⟨k, s, hk, rfl, hS, hE, hSn, hRi⟩ := hrel
    have k1' := k1.ext hE
    have m1' := k1'.cell
    have lb := (World.ownsRow.lt hS bs rfl).2
    have HSn := Lib.hid hSn
    have HRi := Lib.hid hRi
    clear hSn hRi
    by_cases hlt : k < g.us.length
    · have hdec : decide ((k : Int) < g.us.length) = true := by simp; omega
      have hdec' : decide (k < g.us.length) = true := by simp; omega
      have hkb : (k : Int) < g.us.length := by omega
      obtain ⟨u, hu⟩ : ∃ u, g.us[k]? = some u := ⟨_, List.getElem?_eq_getElem hlt⟩
      obtain ⟨bb, ob, rfl, hcb⟩ := rd_vb (hU0.ext hE) hu
      have Hu := Lib.hid hu
      clear hu
      have lbb := cell_lt hcb
      cases u
      · go_wp2
        go_roundw
        case rel => exact ⟨k + 1, s, by omega, by go_num, hS, hE, HSn.out, HRi.out.next (fun hu => by rw [Hu.out] at hu; cases hu)⟩
        case measure => simp [intOf]; omega
      · obtain ⟨r, hr⟩ : ∃ r, g.rs[k]? = some r := ⟨_, List.getElem?_eq_getElem (by have := hlu.out; have := hlr.out; omega)⟩
        have hrb := Hv.out.us k r Hu.out hr
        obtain ⟨n, rfl⟩ : ∃ n : Nat, r = n := ⟨r.toNat, by omega⟩
        obtain ⟨bc, oc, rfl, hcc⟩ := rd_ints (hC0.ext hE) hr
        have Hr := Lib.hid hr
        clear hr
        have lbc := cell_lt hcc
        have n1 : n < g.ns.length := by omega
        have n2 : (n : Int) < g.ns.length := by omega
        have n3 : k < g.rs.length := by have := hlu.out; have := hlr.out; omega
        have n4 : (k : Int) < g.rs.length := by omega
        obtain ⟨sb, hsb⟩ : ∃ sb, s[n]? = some sb := ⟨_, List.getElem?_eq_getElem (by rw [HSn.out.len]; exact n1)⟩
        obtain ⟨cS, fS⟩ := own_cells hS
        have cSn := cS n _ (vb_at hsb)
        clear hsb cS hrb
        go_wp2
        go_roundw
        case rel => exact ⟨k + 1, s.set n true, by omega, by go_num, own_mark hS, Ext.setCell hE hbs' _, HSn.out.mark (Rch.root Hu.out Hr.out), (HRi.out.mark n).next (fun _ n' hn' => by
          rw [Hr.out] at hn'
          have e : n' = n := by injection hn' with hn'; omega
          subst e
          exact get_mark.2 (.inl ⟨rfl, by rw [HSn.out.len]; exact n1⟩))⟩
        case measure => simp [intOf]; omega
    · have hdec : decide ((k : Int) < g.us.length) = false := by simp; omega
      have hdec' : decide (k < g.us.length) = false := by simp; omega
      have hkn : k = g.us.length := by omega
      subst hkn
      go_wp2_with fail
      go_loopw [6] (fun t wr => ∃ (b : Bool) (s : List Bool), t = .bool b ∧ wr.ownsRow W.heap.size 4 1 (.slice (some ⟨bs, 0, none⟩) g.ns.length g.ns.length) g.ns.length (vb s) ∧ Ext W wr ∧ Snd g s ∧ RootsIn g s g.us.length ∧ (b = false → ClosedTo g s g.ns.length)) (fun t wr => 2 * unseen wr bs g.ns.length + bnat t)
      case atStart => exact ⟨true, s, rfl, hS, hE, HSn.out, HRi.out, fun h => by cases h⟩
      case round =>
        clear hS hE HSn HRi k1' m1' lb s hk hlt hdec hdec'
        obtain ⟨b, s0, rfl, hS, hE, hSn, hRi, hCl⟩ := hrel
        have m1' := (k1.ext hE).cell
        cases b
        · have hfin := seenTo_all hSn (reach_done hSn hRi (hCl rfl))
          have Hf := Lib.hid hfin
          clear hfin hSn hRi hCl
          clear hU0 hC0 hlu hlr
          have bn : (g.ns.length : Int) ≤ 1000 := by omega
          go_wp2_with fail
          go_loopw [11, 73] (fun t i wr => ∃ (k : Nat) (B : Option Addr) (d : Nat), k ≤ g.ns.length ∧ i = .int .i64 k ∧ t = .slice B (seenTo s0 k).length d ∧ wr.ownsRow W.heap.size 3 1 (.slice B (seenTo s0 k).length d) (seenTo s0 k).length (ints (nats (seenTo s0 k))) ∧ wr.ownsRow W.heap.size 4 1 (.slice (some ⟨bs, 0, none⟩) g.ns.length g.ns.length) g.ns.length (vb s0) ∧ Ext W wr) (fun _ i _ => g.ns.length - (intOf i).toNat)
          case atStart => exact ⟨0, none, 0, by omega, rfl, rfl, own_nil _ _ _ _, hS, hE⟩
          case round =>
            clear hS hE m1'
            obtain ⟨k, B, d, hk, rfl, rfl, hO, hS, hE⟩ := hrel
            have hll := seenTo_len s0 k
            by_cases hlt : k < g.ns.length
            · have hdec : decide ((k : Int) < g.ns.length) = true := by simp; omega
              have hdec' : decide (k < g.ns.length) = true := by simp; omega
              have hkb : (k : Int) < g.ns.length := by omega
              obtain ⟨u, hu⟩ : ∃ u, s0[k]? = some u := ⟨_, List.getElem?_eq_getElem (by have := hS.1; simp [vb] at this; omega)⟩
              obtain ⟨cS, fS⟩ := own_cells hS
              have cSk := cS k _ (vb_at hu)
              have Hu := Lib.hid hu
              have lb := (World.ownsRow.lt hS bs rfl).2
              have hez := hE.size_le
              clear hu cS
              cases u
              · have hs := seenTo_no Hu.out
                have Hs := Lib.hid hs
                clear hs
                go_wp2
                go_roundw
                case rel => exact ⟨k + 1, B, d, by omega, by go_num, by rw [Hs.out], by rw [Hs.out]; exact hO, hS, hE⟩
                case measure => simp [intOf]; omega
              · have hs := seenTo_yes Hu.out
                have Hs := Lib.hid hs
                clear hs
                generalize hzl : seenTo s0 k = zl at *
                have Hzl := Lib.hid hzl
                clear hzl
                go_wp2_with (first | (at_builtin; refine wpList_append rfl Try.el22 _ _ rfl W.heap.size _ _ _ rfl (own_alloc hO _) _ 1 1 _ rfl (rd_one _ _ _) (by simp [Value.oneCell']) (by omega) (by omega) (by (first | omega | (simp; done) | (simp; omega))) ?_; intro A2 c2 w2 hO2 hg2 hat2))
                have hne : ∀ q, (Value.slice (some ⟨bs, 0, none⟩) g.ns.length g.ns.length).ownBlock = some q → q ∉ (Value.slice B zl.length d).ownBlock.toList := fun q hq hm => by
                  have h2 : (Value.slice B zl.length d).ownBlock = some q := by simpa using hm
                  exact own_apart hS hO (Ext.refl _) (by decide) q hq h2
                have g2 : (wr.alloc (.cells #[.int .i64 (k : Int)] 3)).grownBy w2 (Value.slice B zl.length d).ownBlock := hg2
                have hE2 : Ext W w2 := ext_grown (Ext.alloc hE _) hg2 (own_alloc hO _) (Nat.le_refl _)
                have hl2 : (zl ++ [k]).length = zl.length + 1 := by simp
                rw [nats_snoc] at hO2
                have hS2 := own_but (own_alloc hS (.cells #[.int .i64 (k : Int)] 3)) (but_grown g2) hne
                have Hl2 := Lib.hid hl2
                clear hl2 hne
                go_roundw
                case rel => exact ⟨k + 1, A2, c2, by omega, by go_num, by rw [Hs.out, Hl2.out], by rw [Hs.out, Hl2.out]; exact hO2, hS2, hE2⟩
                case measure => simp [intOf]; omega
            · have hdec : decide ((k : Int) < g.ns.length) = false := by simp; omega
              have hdec' : decide (k < g.ns.length) = false := by simp; omega
              have hkn : k = g.ns.length := by omega
              subst hkn
              rw [Hf.out] at hO ⊢
              go_wp2
              go_ret
              exact ⟨B, d, by rw [nats_len]; rfl, by rw [nats_len]; exact own_base hO hsz, hX.trans hE⟩
        · have hsl := hSn.len
          have hun := unseen_own hS
          have HSn := Lib.hid hSn
          have HRi := Lib.hid hRi
          have Hun := Lib.hid hun
          have lb := (World.ownsRow.lt hS bs rfl).2
          clear hSn hRi hCl hun hsl
          have bn : (g.ns.length : Int) ≤ 1000 := by omega
          go_wp2_with fail
          go_loopw [6, 39] (fun t i wr => ∃ (b : Bool) (s : List Bool) (k : Nat), t = .bool b ∧ i = .int .i64 k ∧ k ≤ g.ns.length ∧ wr.ownsRow W.heap.size 4 1 (.slice (some ⟨bs, 0, none⟩) g.ns.length g.ns.length) g.ns.length (vb s) ∧ Ext W wr ∧ Snd g s ∧ RootsIn g s g.us.length ∧ (b = false → s = s0 ∧ ClosedTo g s k) ∧ (b = true → s.count false < s0.count false)) (fun _ i _ => g.ns.length - (intOf i).toNat)
          case atStart => exact ⟨false, s0, 0, rfl, rfl, by omega, hS, hE, HSn.out, HRi.out, fun _ => ⟨rfl, fun m n j x hm => by omega⟩, fun h => by cases h⟩
          case round =>
            clear hS hE m1' lb
            obtain ⟨b, s, k, rfl, rfl, hk, hS, hE, hSn, hRi, hC0, hC1⟩ := hrel
            have m1' := (k1.ext hE).cell
            have lb := (World.ownsRow.lt hS bs rfl).2
            by_cases hlt : k < g.ns.length
            · have hdec : decide ((k : Int) < g.ns.length) = true := by simp; omega
              have hdec' : decide (k < g.ns.length) = true := by simp; omega
              have hkb : (k : Int) < g.ns.length := by omega
              obtain ⟨x, hx0⟩ : ∃ x, g.ns[k]? = some x := ⟨_, List.getElem?_eq_getElem hlt⟩
              obtain ⟨ba, oa, R, cR, D, cD, rfl, q0, q1, hR, hD, lq0⟩ := hgW.node hx0
              replace q0 := cell_ext hE q0
              replace q1 := cell_ext hE q1
              have lq := cell_lt q0
              have hn := Hv.out.nd k x hx0
              have hxl := hn.1
              have Hn := Lib.hid hn.2.2
              have Hx := Lib.hid hx0
              clear hx0 hn hD
              have HSn := Lib.hid hSn
              have HRi := Lib.hid hRi
              have HC0 := Lib.hid hC0
              have HC1 := Lib.hid hC1
              clear hSn hRi hC0 hC1
              go_upto_region 14 with fail
              have hX5 := Ext.alloc (Ext.refl wr) (.cells #[.slice R x.1.length cR, .slice D x.2.length cD] 49)
              have k5 : Blk (wr.alloc (.cells #[.slice R x.1.length cR, .slice D x.2.length cD] 49)) wr.heap.size 49 #[.slice R x.1.length cR, .slice D x.2.length cD] := Blk.new rfl
              generalize hW5 : wr.alloc (.cells #[.slice R x.1.length cR, .slice D x.2.length cD] 49) = W5 at hX5 k5 ⊢
              clear hW5
              obtain ⟨q, hq⟩ : ∃ q, q = wr.heap.size := ⟨_, rfl⟩
              rw [← hq] at k5
              rw [← hq]
              have hqb : q ≠ bs := by omega
              have hbq : bs ≠ q := by omega
              have hqW : W.heap.size ≤ q := by have := hE.size_le; omega
              have hS5 := own_ext hS hX5
              have hE5 := hE.trans hX5
              clear hq hS m1' q0 q1 lq0
              have m5 := k5.cell
              have l5 := k5.lt
              go_wp2_with fail
              go_loopw [6, 47] (fun t i wd => ∃ (b : Bool) (s : List Bool) (j : Nat), t = .bool b ∧ i = .int .i64 j ∧ j ≤ x.1.length ∧ wd.ownsRow W.heap.size 4 1 (.slice (some ⟨bs, 0, none⟩) g.ns.length g.ns.length) g.ns.length (vb s) ∧ Ext W wd ∧ Snd g s ∧ RootsIn g s g.us.length ∧ (b = false → s = s0 ∧ ClosedTo g s k ∧ (s[k]? = some true → ∀ (i n : Nat), i < j → x.1[i]? = some (n : Int) → s[n]? = some true)) ∧ (b = true → s.count false < s0.count false)) (fun _ i _ => x.1.length - (intOf i).toNat)
              case atStart => exact ⟨b, s, 0, rfl, rfl, by omega, hS5, hE5, HSn.out, HRi.out, fun hb => ⟨(HC0.out hb).1, (HC0.out hb).2, fun _ i n hi => by omega⟩, HC1.out⟩
              case round =>
                clear hS5 hE5 HSn HRi HC0 HC1 m5 l5 lb
                obtain ⟨b, s, j, rfl, rfl, hj, hS, hE, hSn, hRi, hC0, hC1⟩ := hrel
                have HSn := Lib.hid hSn
                have HRi := Lib.hid hRi
                have HC0 := Lib.hid hC0
                have HC1 := Lib.hid hC1
                have lb := (World.ownsRow.lt hS bs rfl).2
                clear hSn hRi hC0 hC1
                have hnode : ∀ (i : Nat), i < g.ns.length → ∃ u, s[i]? = some u := fun i hi => ⟨_, List.getElem?_eq_getElem (by rw [HSn.out.len]; exact hi)⟩
                obtain ⟨u, hu⟩ := hnode k hlt
                obtain ⟨cS, fS⟩ := own_cells hS
                have cSk := cS k _ (vb_at hu)
                have Hu := Lib.hid hu
                have Hnode := Lib.hid hnode
                clear hu hnode
                by_cases hjl : j < x.1.length
                · have jd : decide ((j : Int) < x.1.length) = true := by simp; omega
                  have jd' : decide (j < x.1.length) = true := by simp; omega
                  have jb : (j : Int) < x.1.length := by omega
                  obtain ⟨r, hr⟩ : ∃ r, x.1[j]? = some r := ⟨_, List.getElem?_eq_getElem hjl⟩
                  have hrb := Hn.out j r hr
                  obtain ⟨bR, oR, rfl, hcr⟩ := rd_ints (hR.ext hE) hr
                  have lR := cell_lt hcr
                  have Hr := Lib.hid hr
                  clear hr
                  cases u
                  · clear cS
                    go_wp2
                    go_roundw
                    case rel => exact ⟨b, s, j + 1, rfl, by go_num, by omega, hS, hE, HSn.out, HRi.out, fun hb => ⟨(HC0.out hb).1, (HC0.out hb).2.1, fun hk => by rw [Hu.out] at hk; cases hk⟩, HC1.out⟩
                    case measure => simp [intOf]; omega
                  · by_cases hr0 : r < 0
                    · have e : r = -1 := by omega
                      subst e
                      clear cS
                      go_wp2
                      go_roundw
                      case rel => exact ⟨b, s, j + 1, rfl, by go_num, by omega, hS, hE, HSn.out, HRi.out, fun hb => ⟨(HC0.out hb).1, (HC0.out hb).2.1, fun hk i n hi hn => by
                        rcases Nat.lt_or_ge i j with h1 | h1
                        · exact (HC0.out hb).2.2 hk i n h1 hn
                        · have : i = j := by omega
                          subst this
                          rw [Hr.out] at hn
                          injection hn with hn
                          omega⟩, HC1.out⟩
                      case measure => simp [intOf]; omega
                    · obtain ⟨n, rfl⟩ : ∃ n : Nat, r = n := ⟨r.toNat, by omega⟩
                      have n1 : n < g.ns.length := by omega
                      have n2 : (n : Int) < g.ns.length := by omega
                      have n3 : decide ((0 : Int) ≤ n) = true := by simp
                      obtain ⟨t, ht⟩ := Hnode.out n n1
                      have cSn := cS n _ (vb_at ht)
                      have Ht := Lib.hid ht
                      clear ht cS hrb hr0
                      cases t
                      · go_wp2
                        go_roundw
                        case rel =>
                          have hlt2 := count_mark Ht.out
                          have hle : s.count false ≤ s0.count false := by
                            cases b
                            · rw [(HC0.out rfl).1]; omega
                            · have := HC1.out rfl; omega
                          exact ⟨true, s.set n true, j + 1, rfl, by go_num, by omega, own_mark hS, Ext.setCell hE hbs' _, HSn.out.mark (Rch.step (HSn.out.snd k Hu.out) Hx.out Hr.out), HRi.out.mark n, (fun h => by cases h), fun _ => by omega⟩
                        case measure => simp [intOf]; omega
                      · go_wp2
                        go_roundw
                        case rel => exact ⟨b, s, j + 1, rfl, by go_num, by omega, hS, hE, HSn.out, HRi.out, fun hb => ⟨(HC0.out hb).1, (HC0.out hb).2.1, fun hk i m hi hm => by
                          rcases Nat.lt_or_ge i j with h1 | h1
                          · exact (HC0.out hb).2.2 hk i m h1 hm
                          · have : i = j := by omega
                            subst this
                            rw [Hr.out] at hm
                            injection hm with hm
                            have : m = n := by omega
                            subst this
                            exact Ht.out⟩, HC1.out⟩
                        case measure => simp [intOf]; omega
                · have jd : decide ((j : Int) < x.1.length) = false := by simp; omega
                  have jd' : decide (j < x.1.length) = false := by simp; omega
                  have hjn : j = x.1.length := by omega
                  subst hjn
                  clear cS cSk
                  go_wp2_with fail
                  go_roundw
                  case rel => exact ⟨b, s, k + 1, rfl, by go_num, by omega, hS, hE, HSn.out, HRi.out, fun hb => ⟨(HC0.out hb).1, (HC0.out hb).2.1.next (fun n i y h1 h2 h3 => by
                    rw [Hx.out] at h2
                    injection h2 with h2
                    subst h2
                    exact (HC0.out hb).2.2 h1 i n (List.getElem?_eq_some_iff.1 h3).1 h3)⟩, HC1.out⟩
                  case measure => simp [intOf]; omega
            · have hdec : decide ((k : Int) < g.ns.length) = false := by simp; omega
              have hdec' : decide (k < g.ns.length) = false := by simp; omega
              have hkn : k = g.ns.length := by omega
              subst hkn
              have HC := Lib.hid hC1
              go_wp2_with fail
              go_roundw
              case rel => exact ⟨b, s, rfl, hS, hE, hSn, hRi, fun hb => (hC0 hb).2⟩
              case measure =>
                rw [unseen_own hS, Hun.out]
                cases b
                · rw [(hC0 rfl).1]; simp [bnat]
                · have := hC1 rfl
                  simp [bnat]; omega
end Go.Proofs.Ytamghjilcfeheaa

namespace Go.Proofs.Ytamghjilcfeheaa
open Go.RowKit Go.Draw

set_option maxRecDepth 100000 in
set_option maxHeartbeats 2000000 in
theorem live19_any (v : Value) (g : Gr) (w : World) (hg : GRd w v g) (hv : Vld g) (hb : Bd g) : Calls Try.prog 19 #[v] w fun r w' => r = .returned (.int .i64 (liveT g)) ∧ Ext w w' := by
  obtain ⟨A0, a0, B0, b0, C0, c0, rfl⟩ := hg.sl
  have hb0 := hb.1
  have hle := sum_le hb.2.2.2
  have hll := reachL_len g
  clear hb
  go_enter Try.func19, Try.ntmps19
  go_wp2_with (first | (go_at_call 17; refine (reach17_any _ g _ (hg.ext (by (repeat (first | (with_reducible exact Ext.refl _) | assumption | (with_reducible refine Ext.alloc ?_ _) | (with_reducible refine Ext.drew ?_) | (with_reducible refine Ext.drewL ?_) | refine Ext.trans ?_ (by assumption))))) hv hb0).mono ?_; rintro e w1 ⟨A, c, rfl, hO, hE1⟩; have k1 := (blk_of_ext hE1); have m1 := k1.cell))
  have hg1 := hg.ext ((Ext.alloc (Ext.refl w) (.cells #[.slice A0 g.ns.length a0, .slice B0 g.us.length b0, .slice C0 g.rs.length c0] 26)).trans hE1)
  have hEw : Ext w w1 := (Ext.alloc (Ext.refl w) _).trans hE1
  have hz := hEw.size_le
  simp only [nats_len] at hO ⊢
  have hRd := Rd.of_own hO
  clear hO hg
  obtain ⟨L, hL⟩ : ∃ L, reachL g = L := ⟨_, rfl⟩
  have hLt : ∀ n ∈ L, n < g.ns.length := fun n hn => reachL_lt (by rw [hL]; exact hn)
  have HL := Lib.hid (show liveT g = sumL g L by unfold liveT; rw [hL])
  rw [hL] at hRd hll ⊢
  have hle2 : ∀ k, sumL g (L.take k) ≤ 6001000 := fun k => by
    have h1 := hle (L.take k)
    have h2 : (L.take k).length ≤ L.length := by simp; omega
    omega
  clear hL hle
  have HLt := Lib.hid hLt
  clear hLt
  go_loopw [3, 9] (fun t i wr => ∃ k : Nat, k ≤ L.length ∧ i = .int .i64 k ∧ t = .int .i64 (sumL g (L.take k)) ∧ Ext w1 wr) (fun _ i _ => L.length - (intOf i).toNat)
  case atStart => exact ⟨0, by omega, rfl, rfl, Ext.refl _⟩
  case round =>
    clear m1
    obtain ⟨k, hk, rfl, rfl, hEr⟩ := hrel
    have m1 := (k1.ext hEr).cell
    have hS := hle2 k
    obtain ⟨S, hSe⟩ : ∃ S, sumL g (L.take k) = S := ⟨_, rfl⟩
    rw [hSe] at hS ⊢
    have HS := Lib.hid hSe
    clear hSe
    by_cases hlt : k < L.length
    · have hdec : decide ((k : Int) < L.length) = true := by simp; omega
      have hdec' : decide (k < L.length) = true := by simp; omega
      have hkb : (k : Int) < L.length := by omega
      obtain ⟨n, hn⟩ : ∃ n, L[k]? = some n := ⟨_, List.getElem?_eq_getElem hlt⟩
      have hnl := HLt.out n (List.mem_of_getElem? hn)
      obtain ⟨bb, oo, u, rfl, hu, hc⟩ := (hRd.ext hEr).at_ hlt
      have hu2 : (ints (nats L))[k]? = some (.int .i64 (n : Int)) := ints_at (by simp [nats, hn])
      rw [hu2] at hu
      injection hu with hu
      subst hu
      obtain ⟨x, hx⟩ : ∃ x, g.ns[n]? = some x := ⟨_, List.getElem?_eq_getElem hnl⟩
      obtain ⟨ba, oa, R, cR, D, cD, rfl, q0, q1, _, _, lq⟩ := (hg1.ext hEr).node hx
      have hnd := hv.nd n x hx
      have x1 := hnd.1
      have x2 := hnd.2.1
      have Hn := Lib.hid hn
      have Hx := Lib.hid hx
      have lbb := cell_lt hc
      have nb : (n : Int) < g.ns.length := by omega
      clear hn hx hnd hu2
      go_upto_region 5 with fail
      refine wp_region_ext [(true, 0), (true, 1), (true, 2), (true, 3), (true, 4), (true, 5), (true, 6), (true, 7), (true, 8), (true, 9), (true, 10), (true, 11), (true, 12), (true, 13), (true, 14), (true, 15), (true, 16), (true, 17), (true, 18)] Try.mixed (by kernel_rfl) (by simp only [pick, List.filterMap_cons, List.filterMap_nil, List.getElem?_toArray, List.getElem?_cons_succ, List.getElem?_cons_zero, Option.map_some]; rfl) ?_
      intro hx
      repeat (first
        | (refine wpL_take hx (v := ?_) (by rfl) (fun _ hc => ?_) ?_
           rotate_left
           focus (go_simp; (try go_ints); exact rfl)
           simp only [Act.put, List.setIfInBounds_toArray, List.set_cons_zero, List.set_cons_succ])
        | (refine wpL_skip (by rfl) ?_; simp only [Act.put, List.setIfInBounds_toArray, List.set_cons_zero, List.set_cons_succ])
        | (refine wpL_call (by rfl) (fun K hK => ?_); go_simp; (first | (refine hK _ _ ?_ ?_; (focus ((repeat (first | (with_reducible exact Ext.refl _) | assumption | (with_reducible refine Ext.alloc ?_ _) | (with_reducible refine Ext.drew ?_) | (with_reducible refine Ext.drewL ?_) | refine Ext.trans ?_ (by assumption))); done))) | (refine hK undef _ ?_ ?_; (focus ((repeat (first | (with_reducible exact Ext.refl _) | assumption | (with_reducible refine Ext.alloc ?_ _) | (with_reducible refine Ext.drew ?_) | (with_reducible refine Ext.drewL ?_) | refine Ext.trans ?_ (by assumption))); done)))); clear hK; intro hr; replace hx := hx.trans hr; clear hr; try simp only [Act.put, List.setIfInBounds_toArray, List.set_cons_zero, List.set_cons_succ]))
      refine wpL_end ?_
      go_wp2
      go_roundw
      case rel =>
        refine ⟨k + 1, by omega, by go_num, ?_, by (repeat (first | (with_reducible exact Ext.refl _) | assumption | (with_reducible refine Ext.alloc ?_ _) | (with_reducible refine Ext.drew ?_) | (with_reducible refine Ext.drewL ?_) | refine Ext.trans ?_ (by assumption)))⟩
        rw [List.take_add_one, Hn.out, Option.toList_some, sum_snoc, HS.out, List.getD_eq_getElem?_getD, Hx.out]
        simp only [Option.getD_some, wordsOf]
        go_num
      case measure => simp [intOf]; omega
    · have hdec : decide ((k : Int) < L.length) = false := by simp; omega
      have hdec' : decide (k < L.length) = false := by simp; omega
      have hkn : k = L.length := by omega
      subst hkn
      go_wp2
      go_ret
      exact ⟨ret_int (by rw [HL.out, ← HS.out, List.take_length]), hEw.trans hEr⟩
end Go.Proofs.Ytamghjilcfeheaa
