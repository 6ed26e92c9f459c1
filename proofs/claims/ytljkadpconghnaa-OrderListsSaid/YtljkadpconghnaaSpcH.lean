/- The walks of bump.Fits and bump.Valid (references). Conditions: the ranges that each theorem states. -/
import Derived.Test.YtljkadpconghnaaSpcG
namespace Go.Proofs.Ytljkadpconghnaa
open Go.RowKit Go.Draw

theorem sub_len : ∀ (l1 l2 : List Nat), l1.Nodup → (∀ x ∈ l1, x ∈ l2) → l1.length ≤ l2.length
  | [], _, _, _ => by simp
  | x :: l1, l2, hn, hs => by
    have hx := hs x (by simp)
    have hn' := List.nodup_cons.1 hn
    have h := sub_len l1 (l2.erase x) hn'.2 (fun y hy => (List.mem_erase_of_ne (fun e => by subst e; exact hn'.1 hy)).2 (hs y (by simp [hy])))
    rw [List.length_erase_of_mem hx] at h
    have : 0 < l2.length := List.length_pos_of_mem hx
    simp only [List.length_cons]
    omega
theorem same_len {l1 l2 : List Nat} (h1 : l1.Nodup) (h2 : l2.Nodup) (h : ∀ x, x ∈ l1 ↔ x ∈ l2) : l1.length = l2.length :=
  Nat.le_antisymm (sub_len _ _ h1 (fun x hx => (h x).1 hx)) (sub_len _ _ h2 (fun x hx => (h x).2 hx))
/-- the frames below k of an owner -/
def ownK (fs : List Fr) (q : Int) (k : Nat) : List Nat := (List.range k).filter fun i => (fs[i]?).any fun F => F.o == q
theorem ownK_nodup (fs : List Fr) (q : Int) (k : Nat) : (ownK fs q k).Nodup := List.Pairwise.filter _ List.nodup_range
theorem mem_ownK {fs : List Fr} {q : Int} {k i : Nat} : i ∈ ownK fs q k ↔ i < k ∧ ∃ F, fs[i]? = some F ∧ F.o = q := by
  unfold ownK
  rw [List.mem_filter, List.mem_range]
  constructor
  · rintro ⟨h1, h2⟩
    cases hF : fs[i]? with
    | none => rw [hF] at h2; simp at h2
    | some F => rw [hF] at h2; simp at h2; exact ⟨h1, F, rfl, h2⟩
  · rintro ⟨h1, F, hF, h2⟩
    exact ⟨h1, by rw [hF]; simp [h2]⟩
theorem ownK_yes {fs : List Fr} {q : Int} {k : Nat} {F : Fr} (h : fs[k]? = some F) (ho : F.o = q) : (ownK fs q (k + 1)).length = (ownK fs q k).length + 1 := by
  simp only [ownK, List.range_succ, List.filter_append, List.length_append]
  rw [List.filter_cons_of_pos (by rw [h]; simp [ho])]
  rfl
theorem ownK_no {fs : List Fr} {q : Int} {k : Nat} {F : Fr} (h : fs[k]? = some F) (ho : F.o ≠ q) : (ownK fs q (k + 1)).length = (ownK fs q k).length := by
  simp only [ownK, List.range_succ, List.filter_append, List.length_append]
  rw [List.filter_cons_of_neg (by rw [h]; simp [ho])]
  simp
theorem ownK_le (fs : List Fr) (q : Int) (k : Nat) : (ownK fs q k).length ≤ k := by
  have := List.length_filter_le (fun i => (fs[i]?).any fun F => F.o == q) (List.range k)
  simpa [ownK] using this
section
variable {S : Sp} {L : List Ch}
theorem Chs.owned (h : Chs S L) {x : Ch} (hx : x ∈ L) : (ownK S.fs x.q S.fs.length).length = x.c.length := by
  refine same_len (ownK_nodup _ _ _) (nodup_of_mem hx h.nd) (fun i => ?_)
  rw [mem_ownK]
  constructor
  · rintro ⟨_, F, hF, ho⟩
    rcases h.cases hF with ⟨rfl, _⟩ | ⟨y, hy, p, hp, rfl⟩
    · have := (h.ids x hx).1
      simp only [freeF] at ho
      omega
    · have := h.same hy hx ho
      subst this
      exact List.mem_of_getElem? hp
  · intro hi
    obtain ⟨p, hp⟩ := List.mem_iff_getElem?.1 hi
    exact ⟨h.lt hx hp, _, h.fr x hx p i hp, rfl⟩
theorem Chs.frees (h : Chs S L) : (frK S.fs S.fs.length).length + (used L).length = S.fs.length := by
  have hm : ∀ i, i ∈ frK S.fs S.fs.length ↔ i < S.fs.length ∧ i ∉ used L := by
    intro i
    have h1 : i ∈ frK S.fs S.fs.length ↔ i ∈ ownK S.fs (-1) S.fs.length := Iff.rfl
    rw [h1, mem_ownK]
    constructor
    · rintro ⟨h1, F, hF, ho⟩
      refine ⟨h1, ?_⟩
      rcases h.cases hF with ⟨_, hu⟩ | ⟨y, hy, p, hp, rfl⟩
      · exact hu
      · have := (h.ids y hy).1
        simp only at ho
        omega
    · rintro ⟨h1, hu⟩
      exact ⟨h1, freeF, h.free i h1 hu, rfl⟩
  have hnd : (frK S.fs S.fs.length ++ used L).Nodup := List.nodup_append.2 ⟨ownK_nodup _ _ _, h.nd, fun a ha b hb e => by subst e; exact ((hm a).1 ha).2 hb⟩
  have e := same_len hnd (List.nodup_range (n := S.fs.length)) (fun i => by
    rw [List.mem_append, List.mem_range, hm]
    constructor
    · rintro (⟨h1, _⟩ | h1)
      · exact h1
      · exact h.used_lt h1
    · intro h1
      by_cases hu : i ∈ used L
      · exact .inr hu
      · exact .inl ⟨h1, hu⟩)
  rw [List.length_append, List.length_range] at e
  exact e
end
theorem ceil_zero {wd B : Nat} (hB : 1 ≤ B) (h : ceilN wd B = 0) : wd = 0 := by
  unfold ceilN at h
  rcases Nat.eq_zero_or_pos wd with h0 | h0
  · exact h0
  · have := Nat.div_pos (show B ≤ wd + B - 1 by omega) (by omega : 0 < B)
    omega
theorem ceil_mul {wd B n : Nat} (hB : 1 ≤ B) (h : ceilN wd B ≤ n) : wd ≤ n * B := by
  unfold ceilN at h
  have h1 := Nat.div_add_mod (wd + B - 1) B
  have h2 := Nat.mod_lt (wd + B - 1) (show B > 0 by omega)
  have h3 : B * ((wd + B - 1) / B) ≤ n * B := by rw [Nat.mul_comm]; exact Nat.mul_le_mul_right _ h
  omega
theorem ceil_lt {wd B n : Nat} (hB : 1 ≤ B) (h : n < ceilN wd B) : n * B < wd := by
  unfold ceilN at h
  have h1 := (Nat.le_div_iff_mul_le (by omega : 0 < B)).1 h
  rw [Nat.succ_mul] at h1
  omega

theorem chain_to (A B : Option Addr) (a b : Nat) (S : Sp) (c : List Nat) (z : Int) (w : World) (h : SRd w S A B) (h4 : S.fs.length ≤ 64) (hc : ∀ m g : Nat, c[m]? = some g → ∃ F, S.fs[g]? = some F ∧ F.n = posI c (m + 1)) (hl : c.length ≤ 64) (hz : posI c 0 = z) :
    Calls Try.prog 70 #[spV S A a B b, .int .i64 z] w (RetInts w c) := by
  subst hz
  exact chain_any A B a b S c w h h4 hc hl
set_option maxRecDepth 100000 in
set_option maxHeartbeats 4000000 in
theorem fits_any (A Bf : Option Addr) (a b : Nat) (S : Sp) (L : List Ch) (x : Ch) (wd B : Nat) (w : World) (h : SRd w S A Bf) (hS : Chs S L) (hx : x ∈ L) (hB : 2 ^ S.sh = B) (hwd : ceilN wd B = x.c.length) :
    Calls Try.prog 57 #[spV S A a Bf b, incV x wd] w fun r w' => r = .returned (.bool true) ∧ Ext w w' := by
  have hsh := hS.sh
  have hb1 := (pow_bd hS.sh).1
  have hb2 := (pow_bd hS.sh).2
  have hwl := hS.wl
  rw [hB] at hb1 hb2 hwl
  obtain ⟨hn1, hn2⟩ := hS.n2
  obtain ⟨hx1, hx2, hx3, hx4⟩ := hS.ids x hx
  have hlc := hS.len_ch hx
  have hw1 := ceil_mul (n := S.fs.length) (B := B) (wd := wd) (by omega) (by omega)
  have hfB : S.fs.length * B ≤ 64 * 256 := Nat.mul_le_mul (by omega) hb2
  have q1 : decide (x.q < 0) = false := by (first | omega | (simp; done) | (simp; omega))
  have q2 : decide (4294967295 < x.q) = false := by (first | omega | (simp; done) | (simp; omega))
  have q3 : decide (x.b < 0) = false := by (first | omega | (simp; done) | (simp; omega))
  have q4 : decide (4 ≤ x.b) = false := by (first | omega | (simp; done) | (simp; omega))
  have q5 : decide ((wd : Int) < 0) = false := by (first | omega | (simp; done) | (simp; omega))
  have q6 : decide ((S.ws.length : Int) < wd) = false := by (first | omega | (simp; done) | (simp; omega))
  have q6' : decide (S.ws.length < wd) = false := by (first | omega | (simp; done) | (simp; omega))
  have HS := Lib.hid hS
  have Hwl := Lib.hid hwl
  have Hwd := Lib.hid hwd
  clear hwl hwd
  rcases Nat.eq_zero_or_pos wd with h0 | h0
  · subst h0
    have hc0 : x.c = [] := by
      have := Hwd.out
      have h1 := ceilN_le 0 B (by omega)
      exact List.eq_nil_of_length_eq_zero (by omega)
    have p1 : posI x.c 0 = -1 := by rw [hc0]; rfl
    have p2 : lastI x.c = -1 := by rw [hc0]; rfl
    clear hS hx hB
    unfold spV incV
    rw [p1, p2]
    clear p1 p2 hc0
    go_enter Try.func57, Try.ntmps57
    go_wp2
    go_ret
    exact ⟨rfl, by (repeat (first | (with_reducible exact Ext.refl _) | assumption | (with_reducible refine Ext.alloc ?_ _) | (with_reducible refine Ext.drew ?_) | (with_reducible refine Ext.drewL ?_) | refine Ext.trans ?_ (by assumption)))⟩
  · have hc1 : 0 < x.c.length := by
      rcases Nat.eq_zero_or_pos x.c.length with h1 | h1
      · have := ceil_zero (B := B) (wd := wd) (by omega) (by rw [Hwd.out, h1])
        omega
      · exact h1
    have hg0 : x.c[0]? = some x.c[0] := List.getElem?_eq_getElem hc1
    generalize x.c[0] = g at hg0
    have hgl' : x.c[x.c.length - 1]? = some x.c[x.c.length - 1] := List.getElem?_eq_getElem (by omega)
    generalize x.c[x.c.length - 1]'(by omega) = gl at hgl'
    have hp0 := posI_some hg0
    have hpl : lastI x.c = (gl : Int) := posI_some hgl'
    have hF0 := hS.fr x hx 0 g hg0
    have hgl := hS.lt hx hg0
    have hgI : (g : Int) < S.fs.length := by omega
    obtain ⟨bF, oF, rfl, c0, c1, c2⟩ := fr_at h.F hF0
    simp only [Ch.st] at c1
    have lF := cell_lt c0
    have g1 : decide ((g : Int) < 0) = false := by (first | omega | (simp; done) | (simp; omega))
    have g2 : decide ((S.fs.length : Int) ≤ g) = false := by (first | omega | (simp; done) | (simp; omega))
    have g2' : decide (S.fs.length ≤ g) = false := by (first | omega | (simp; done) | (simp; omega))
    have Hc := Lib.hid (show ∀ m g : Nat, x.c[m]? = some g → ∃ F, S.fs[g]? = some F ∧ F.n = posI x.c (m + 1) from fun m g hg => ⟨_, hS.fr x hx m g hg, rfl⟩)
    have Hown := Lib.hid (hS.owned hx)
    have Hp0 := Lib.hid hp0
    have Hpl := Lib.hid hpl
    have Hgl := Lib.hid hgl'
    have hw0 : ((wd : Int) == 0) = false := by simp; omega
    clear hS hx hg0 hgl' hp0 hpl hF0
    unfold spV incV
    rw [Hp0.out, Hpl.out]
    go_enter Try.func57, Try.ntmps57
    go_upto_region 10 with fail
    have kS : Blk (((w.alloc (.cells #[.int .i64 S.sh, .slice A S.ws.length a, .slice (some ⟨bF, oF, none⟩) S.fs.length b] 35)).alloc (.cells #[.int .i64 x.q, .int .i64 x.b, .int .i64 g, .int .i64 gl, .int .i64 wd] 24)).alloc (.cells #[.int .i64 x.q, .int .i64 (x.b * 4294967296 + x.q), .int .i64 (posI x.c 1)] 43)) w.heap.size 35 #[.int .i64 S.sh, .slice A S.ws.length a, .slice (some ⟨bF, oF, none⟩) S.fs.length b] := Blk.alloc (Blk.alloc (Blk.new rfl) _) _
    have kI : Blk (((w.alloc (.cells #[.int .i64 S.sh, .slice A S.ws.length a, .slice (some ⟨bF, oF, none⟩) S.fs.length b] 35)).alloc (.cells #[.int .i64 x.q, .int .i64 x.b, .int .i64 g, .int .i64 gl, .int .i64 wd] 24)).alloc (.cells #[.int .i64 x.q, .int .i64 (x.b * 4294967296 + x.q), .int .i64 (posI x.c 1)] 43)) (w.heap.size + 1) 24 #[.int .i64 x.q, .int .i64 x.b, .int .i64 g, .int .i64 gl, .int .i64 wd] := Blk.alloc (Blk.new (by simp)) _
    have hEW : Ext w (((w.alloc (.cells #[.int .i64 S.sh, .slice A S.ws.length a, .slice (some ⟨bF, oF, none⟩) S.fs.length b] 35)).alloc (.cells #[.int .i64 x.q, .int .i64 x.b, .int .i64 g, .int .i64 gl, .int .i64 wd] 24)).alloc (.cells #[.int .i64 x.q, .int .i64 (x.b * 4294967296 + x.q), .int .i64 (posI x.c 1)] 43)) := by (repeat (first | (with_reducible exact Ext.refl _) | assumption | (with_reducible refine Ext.alloc ?_ _) | (with_reducible refine Ext.drew ?_) | (with_reducible refine Ext.drewL ?_) | refine Ext.trans ?_ (by assumption)))
    generalize ((w.alloc (.cells #[.int .i64 S.sh, .slice A S.ws.length a, .slice (some ⟨bF, oF, none⟩) S.fs.length b] 35)).alloc (.cells #[.int .i64 x.q, .int .i64 x.b, .int .i64 g, .int .i64 gl, .int .i64 wd] 24)).alloc (.cells #[.int .i64 x.q, .int .i64 (x.b * 4294967296 + x.q), .int .i64 (posI x.c 1)] 43) = W at kS kI hEW ⊢
    generalize w.heap.size = b0 at kS kI ⊢
    clear c0 c1 c2 lF
    have cS := kS.cell
    have lS := kS.lt
    have cI := kI.cell
    have lI := kI.lt
    go_wp2_with (first | (go_at_call 70; refine (chain_to A (some ⟨bF, oF, none⟩) a b S x.c _ _ (h.ext hEW) (by omega) Hc.out (by omega) Hp0.out).mono ?_; rintro e w1 ⟨D, d, rfl, hD, hE1⟩; have kS1 := kS.ext hE1; have kI1 := kI.ext hE1; have cS1 := kS1.cell; have lS1 := kS1.lt; have cI1 := kI1.cell; have lI1 := kI1.lt))
    clear cS lS cI lI cS1 lS1 cI1 lI1
    have hD2 := Rd.of_own hD
    have hEw1 := hEW.trans hE1
    go_loopw [7, 92] (fun sn s wr => ∃ k : Nat, k ≤ S.fs.length ∧ s = .int .i64 k ∧ sn = .int .i64 (ownK S.fs x.q k).length ∧ Ext w1 wr) (fun _ s _ => S.fs.length - (intOf s).toNat)
    case atStart => exact ⟨0, by omega, rfl, rfl, by (repeat (first | (with_reducible exact Ext.refl _) | assumption | (with_reducible refine Ext.alloc ?_ _) | (with_reducible refine Ext.drew ?_) | (with_reducible refine Ext.drewL ?_) | refine Ext.trans ?_ (by assumption)))⟩
    case round =>
      obtain ⟨k, hk, rfl, rfl, hE⟩ := hrel
      have kS2 := kS1.ext hE
      have kI2 := kI1.ext hE
      have cS := kS2.cell
      have lS := kS2.lt
      have cI := kI2.cell
      have lI := kI2.lt
      have hol := ownK_le S.fs x.q k
      by_cases hlt : k < S.fs.length
      · have hdec : decide ((k : Int) < S.fs.length) = true := by simp; omega
        have hdec' : decide (k < S.fs.length) = true := by simp; omega
        have hkI : (k : Int) < S.fs.length := by omega
        obtain ⟨F, hF0⟩ : ∃ F, S.fs[k]? = some F := ⟨_, List.getElem?_eq_getElem hlt⟩
        obtain ⟨bG, oG, he, c0, c1, c2⟩ := fr_at (h.F.ext (hEw1.trans hE)) hF0
        simp only [Option.some.injEq, Addr.mk.injEq, and_true] at he
        obtain ⟨rfl, rfl⟩ := he
        have lF := cell_lt c0
        by_cases ho : F.o = x.q
        · have Hs := Lib.hid (ownK_yes hF0 ho)
          rw [ho] at c0
          clear ho hF0
          go_wp2
          go_roundw
          case rel => exact ⟨k + 1, by omega, by go_num, by rw [Hs.out]; go_num, by (repeat (first | (with_reducible exact Ext.refl _) | assumption | (with_reducible refine Ext.alloc ?_ _) | (with_reducible refine Ext.drew ?_) | (with_reducible refine Ext.drewL ?_) | refine Ext.trans ?_ (by assumption)))⟩
          case measure => simp [intOf]; omega
        · have Hs := Lib.hid (ownK_no hF0 ho)
          have ho' : (F.o == x.q) = false := by simpa using ho
          clear ho hF0
          go_wp2
          go_roundw
          case rel => exact ⟨k + 1, by omega, by go_num, by rw [Hs.out], by (repeat (first | (with_reducible exact Ext.refl _) | assumption | (with_reducible refine Ext.alloc ?_ _) | (with_reducible refine Ext.drew ?_) | (with_reducible refine Ext.drewL ?_) | refine Ext.trans ?_ (by assumption)))⟩
          case measure => simp [intOf]; omega
      · have hdec : decide ((k : Int) < S.fs.length) = false := by simp; omega
        have hdec' : decide (k < S.fs.length) = false := by simp; omega
        have hke : k = S.fs.length := by omega
        have hn := Hown.out
        rw [← hke] at hn
        rw [hn]
        clear hn hke hol
        go_upto_region 18 with fail
        obtain ⟨bD, oD, rfl, hcl⟩ := (hD2.ext hE).2 hc1
        have hl := hcl (x.c.length - 1) (.int .i64 gl) (ints_at (by unfold natI; rw [List.getElem?_map, Hgl.out]; rfl))
        have hlD := cell_lt hl
        have hnl : (x.c.length : Int) - 1 = ((x.c.length - 1 : Nat) : Int) := by omega
        have hnb : ((x.c.length - 1 : Nat) : Int) < x.c.length := by omega
        have hnw : IntKind.i64.wrap ((x.c.length : Int) - 1) = ((x.c.length - 1 : Nat) : Int) := by rw [hnl]; exact IntWalk.i64_in _ (by omega)
        have e1 : ((x.c.length : Int) == (ceilN wd B : Nat)) = true := by rw [Hwd.out]; simp
        clear hcl
        refine wp_region_ext [(true, 0), (true, 1), (true, 2), (true, 3), (false, 4), (true, 5), (true, 6), (true, 7), (true, 8), (true, 9), (true, 10), (true, 11), (true, 12), (true, 13), (true, 14), (true, 15), (true, 16), (true, 17), (true, 18), (true, 19), (true, 20), (true, 21), (true, 22), (true, 23)] Try.mixed (by kernel_rfl) (by simp only [pick, List.filterMap_cons, List.filterMap_nil, List.getElem?_toArray, List.getElem?_cons_succ, List.getElem?_cons_zero, Option.map_some]; rfl) ?_
        intro hx
        repeat (first
          | (refine wpL_take hx (v := ?_) (by rfl) (fun _ hc => ?_) ?_
             rotate_left
             focus (go_simp; (try go_ints); exact rfl)
             simp only [Act.put, List.setIfInBounds_toArray, List.set_cons_zero, List.set_cons_succ])
          | (refine wpL_skip (by rfl) ?_; simp only [Act.put, List.setIfInBounds_toArray, List.set_cons_zero, List.set_cons_succ])
          | (refine wpL_call (by rfl) (fun K hK => ?_); go_simp; go_at_call 71; refine (frames_gen A (some ⟨bF, oF, none⟩) a b S _ _ _ _ wd B _ hsh hB (by omega)).mono ?_; rintro e w1 ⟨rfl, hE3⟩; refine hK _ _ (hE3) ?_; clear hK; intro hr; replace hx := hx.trans hr; clear hr; simp only [Act.put, List.setIfInBounds_toArray, List.set_cons_zero, List.set_cons_succ])
          | (refine wpL_call (by rfl) (fun K hK => ?_); go_simp; (first | (refine hK _ _ ?_ ?_; (focus ((repeat (first | (with_reducible exact Ext.refl _) | assumption | (with_reducible refine Ext.alloc ?_ _) | (with_reducible refine Ext.drew ?_) | (with_reducible refine Ext.drewL ?_) | refine Ext.trans ?_ (by assumption))); done))) | (refine hK undef _ ?_ ?_; (focus ((repeat (first | (with_reducible exact Ext.refl _) | assumption | (with_reducible refine Ext.alloc ?_ _) | (with_reducible refine Ext.drew ?_) | (with_reducible refine Ext.drewL ?_) | refine Ext.trans ?_ (by assumption))); done)))); clear hK; intro hr; replace hx := hx.trans hr; clear hr; try simp only [Act.put, List.setIfInBounds_toArray, List.set_cons_zero, List.set_cons_succ]))
        refine wpL_end ?_
        go_wp2
        go_ret
        exact ⟨rfl, by (repeat (first | (with_reducible exact Ext.refl _) | assumption | (with_reducible refine Ext.alloc ?_ _) | (with_reducible refine Ext.drew ?_) | (with_reducible refine Ext.drewL ?_) | refine Ext.trans ?_ (by assumption)))⟩
set_option maxRecDepth 100000 in
set_option maxHeartbeats 1000000 in
theorem bvalid_any (A Bf : Option Addr) (a b : Nat) (S : Sp) (L : List Ch) (x : Ch) (wd B : Nat) (w : World) (h : SRd w S A Bf) (hS : Chs S L) (hx : x ∈ L) (hB : 2 ^ S.sh = B) (hwd : ceilN wd B = x.c.length) :
    Calls Try.prog 41 #[spV S A a Bf b, incV x wd] w fun r w' => r = .returned (.bool true) ∧ Ext w w' := by
  unfold spV incV
  go_enter Try.func41, Try.ntmps41
  go_wp2_with (first | (go_at_call 45; refine (valid_any A Bf a b S L _ (h.ext (by (repeat (first | (with_reducible exact Ext.refl _) | assumption | (with_reducible refine Ext.alloc ?_ _) | (with_reducible refine Ext.drew ?_) | (with_reducible refine Ext.drewL ?_) | refine Ext.trans ?_ (by assumption))))) hS).mono ?_; rintro e w1 ⟨rfl, hE1⟩; have hc1 := hE1.cell) | (go_at_call 57; refine (fits_any A Bf a b S L x wd B _ (h.ext (by (repeat (first | (with_reducible exact Ext.refl _) | assumption | (with_reducible refine Ext.alloc ?_ _) | (with_reducible refine Ext.drew ?_) | (with_reducible refine Ext.drewL ?_) | refine Ext.trans ?_ (by assumption))))) hS hx hB hwd).mono ?_; rintro e w1 ⟨rfl, hE2⟩))
  go_ret
  exact ⟨rfl, by (repeat (first | (with_reducible exact Ext.refl _) | assumption | (with_reducible refine Ext.alloc ?_ _) | (with_reducible refine Ext.drew ?_) | (with_reducible refine Ext.drewL ?_) | refine Ext.trans ?_ (by assumption)))⟩
end Go.Proofs.Ytljkadpconghnaa
