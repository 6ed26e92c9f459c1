/- The order of the increments that a space is made with; the walk of the law OrderFirst. Conditions: the ranges that each theorem states. -/
import Derived.Test.YtljkadpconghnaaSpcW
namespace Go.Proofs.Ytljkadpconghnaa
open Go.RowKit Go.Draw

/-- the increments of a made space -/
def Good (L : List Inc) : Prop := L.length ≤ 4 ∧ ∀ (k : Nat) (i : Inc), L[k]? = some i → 3 * (k : Int) ≤ i.q ∧ i.q < 3 * (k : Int) + 3 ∧ 0 ≤ i.b ∧ i.b < 3
theorem GoodL.good {B : Nat} {l : List (Ch × Nat)} (h : GoodL B l) (hl : l.length ≤ 4) : Good (l.map incOf) := by
  refine ⟨by simpa using hl, fun k i hi => ?_⟩
  rw [List.getElem?_map, Option.map_eq_some_iff] at hi
  obtain ⟨p, hp, rfl⟩ := hi
  have h1 := h k p hp
  exact ⟨h1.1, h1.2.1, h1.2.2.1, h1.2.2.2.1⟩
section
variable {L : List Inc}
theorem Good.of (h : Good L) {i : Inc} (hi : i ∈ L) : 0 ≤ i.q ∧ i.q < 12 ∧ 0 ≤ i.b ∧ i.b < 3 := by
  obtain ⟨k, hk⟩ := List.mem_iff_getElem?.1 hi
  have h1 := h.2 k i hk
  have h2 := (List.getElem?_eq_some_iff.1 hk).1
  have h3 := h.1
  omega
theorem Good.inj (h : Good L) {i j : Inc} (hi : i ∈ L) (hj : j ∈ L) (e : i.q = j.q) : i = j := by
  obtain ⟨k, hk⟩ := List.mem_iff_getElem?.1 hi
  obtain ⟨m, hm⟩ := List.mem_iff_getElem?.1 hj
  have h1 := h.2 k i hk
  have h2 := h.2 m j hm
  have : k = m := by omega
  subst this
  rw [hk] at hm
  injection hm
theorem Good.asc (h : Good L) : L.Pairwise (fun i j => i.q < j.q) := by
  rw [List.pairwise_iff_getElem]
  intro i j hi hj hij
  have h1 := h.2 i _ (List.getElem?_eq_getElem hi)
  have h2 := h.2 j _ (List.getElem?_eq_getElem hj)
  omega
theorem mem_qs (h : Good L) {i : Inc} : i ∈ (qs L).flatten ↔ i ∈ L := by
  simp only [qs, List.flatten_cons, List.flatten_nil, List.append_nil, List.mem_append, List.mem_filter, beq_iff_eq]
  constructor
  · rintro (h | h | h) <;> exact h.1
  · intro hi
    have := h.of hi
    have : i.b = 0 ∨ i.b = 1 ∨ i.b = 2 := by omega
    rcases this with e | e | e <;> simp [hi, e]
theorem qs_len_all (h : Good L) : (qs L).flatten.length = L.length := by
  have key : ∀ l : List Inc, (∀ i ∈ l, 0 ≤ i.b ∧ i.b < 3) → (qs l).flatten.length = l.length := by
    intro l
    induction l with
    | nil => intro _; rfl
    | cons i l ih =>
      intro hl
      have ih := ih (fun j hj => hl j (List.mem_cons_of_mem _ hj))
      have hb := hl i List.mem_cons_self
      simp only [qs, List.flatten_cons, List.flatten_nil, List.append_nil, List.length_append] at ih ⊢
      have : i.b = 0 ∨ i.b = 1 ∨ i.b = 2 := by omega
      rcases this with e | e | e <;> simp [List.filter_cons, e] <;> omega
  exact key L (fun i hi => by have := h.of hi; omega)
theorem qs_asc (h : Good L) : (qs L).flatten.Pairwise (fun i j => i.st < j.st) := by
  have hp : ∀ b : Int, (L.filter (fun i => i.b == b)).Pairwise (fun i j => i.st < j.st) := by
    intro b
    have h1 : (L.filter (fun i => i.b == b)).Pairwise (fun i j => i.q < j.q) := h.asc.sublist List.filter_sublist
    refine h1.imp_of_mem ?_
    intro i j hi hj hlt
    simp only [List.mem_filter, beq_iff_eq] at hi hj
    unfold Inc.st
    omega
  have hx : ∀ b c : Int, b < c → ∀ i ∈ L.filter (fun i => i.b == b), ∀ j ∈ L.filter (fun i => i.b == c), i.st < j.st := by
    intro b c hbc i hi j hj
    simp only [List.mem_filter, beq_iff_eq] at hi hj
    have h1 := h.of hi.1
    have h2 := h.of hj.1
    unfold Inc.st
    omega
  simp only [qs, List.flatten_cons, List.flatten_nil, List.append_nil]
  refine List.pairwise_append.2 ⟨hp 0, List.pairwise_append.2 ⟨hp 1, hp 2, hx 1 2 (by omega)⟩, ?_⟩
  intro i hi j hj
  rcases List.mem_append.1 hj with hj | hj
  · exact hx 0 1 (by omega) i hi j hj
  · exact hx 0 2 (by omega) i hi j hj
theorem qs_nodup (h : Good L) : ((qs L).flatten.map (·.q)).Nodup := by
  refine List.pairwise_map.2 ?_
  refine (qs_asc h).imp_of_mem ?_
  intro i j hi hj hlt he
  have := h.inj ((mem_qs h).1 hi) ((mem_qs h).1 hj) he
  subst this
  omega
end
theorem prefix_nil (A : Option Addr) (a : Nat) (Q : List (List Inc)) (F : List Inc) (w : World) (h : BRd w A Q) (hn : Q.length ≤ 1000) (hF : Q.flatten = F) (hf : F.length ≤ 1000) :
    Calls Try.prog 17 #[.slice A Q.length a, .slice none 0 0] w fun r w' => r = .returned (.bool true) ∧ Ext w w' := by
  have := prefix_any A none a 0 Q F [] w h hn hF hf ⟨rfl, fun h => absurd h (by simp)⟩ (by simp)
  rw [prefB_nil] at this
  exact this
theorem prefix_one (A D : Option Addr) (a c : Nat) (Q : List (List Inc)) (F : List Inc) (z : Int) (b : Bool) (w : World) (h : BRd w A Q) (hn : Q.length ≤ 1000) (hF : Q.flatten = F) (hf : F.length ≤ 1000) (hz : Rd w D 1 1 [.int .i64 z]) (hb : prefB F [z] = b) :
    Calls Try.prog 17 #[.slice A Q.length a, .slice D 1 c] w fun r w' => r = .returned (.bool b) ∧ Ext w w' := by
  subst hb
  exact prefix_any A D a c Q F [z] w h hn hF hf hz (by simp)
theorem queue_to (A : Option Addr) (c : Nat) (l : List Inc) (Q : List (List Inc)) (n : Nat) (w : World) (h : Rd w A n 5 (flatI l)) (hn : n = l.length) (hl : l.length ≤ 100) (hb : ∀ i ∈ l, 0 ≤ i.b ∧ i.b < 3) (hQ : qs l = Q) :
    Calls Try.prog 15 #[.slice A n c, .int .i64 3] w fun r w' => ∃ g, r = .returned (.slice (some ⟨g, 0, none⟩) Q.length 3) ∧ BRd w' (some ⟨g, 0, none⟩) Q ∧ Ext w w' := by
  subst hn
  subst hQ
  exact queue_any A c l w h hl hb
theorem first_to (A : Option Addr) (c : Nat) (Q : List (List Inc)) (F : List Inc) (w : World) (h : BRd w A Q) (hn : Q.length ≤ 1000) (hF : Q.flatten = F) : Calls Try.prog 20 #[.slice A Q.length c] w fun r w' => r = .returned (headV F) ∧ Ext w w' := by
  subst hF
  exact first_any A c Q w h hn
set_option maxRecDepth 100000 in
set_option maxHeartbeats 4000000 in
theorem lawFirst_any (A0 : Option Addr) (n0 c0 : Nat) (zs : List Int) (w : World) (hz : Rd w A0 n0 1 (ints zs)) (hn : n0 ≤ 9223372036854775807) :
    Calls Try.prog 6 #[.slice A0 n0 c0] w fun r w' => r = .returned (.bool true) ∧ Ext w w' := by
  go_enter Try.func6, Try.ntmps6
  go_wp2_with fail
  go_at_call 14
  refine (deck_any A0 n0 c0 zs _ hz hn).mono ?_
  rintro e w1 ⟨rfl, hD1, hE1⟩
  go_wp2_with fail
  go_at_call 13
  refine (space_any _ _ hD1).mono ?_
  rintro e w2 ⟨S, gW, cW, gF, cF, l, A, c, B, rfl, hB, hS, hG, hl4, hO, hR, hD2, hB2⟩
  have hE2 := But.ext hE1 hB2 (fun x hx => by have := List.mem_singleton.1 hx; omega)
  have hGd := hG.good hl4
  obtain ⟨L, hL⟩ : ∃ L, l.map incOf = L := ⟨_, rfl⟩
  have hll : l.length = L.length := by rw [← hL]; simp
  rw [hL] at hGd hR
  rw [hll] at hR ⊢
  have hL4 : L.length ≤ 4 := hGd.1
  clear hB hS hG hl4 hO hD1 hD2 hB2 hE1 hL hll hz
  obtain ⟨Q, hQq⟩ : ∃ Q, qs L = Q := ⟨_, rfl⟩
  have hQ3 : Q.length ≤ 1000 := by rw [← hQq]; simp [qs]
  obtain ⟨F, hF⟩ : ∃ F, Q.flatten = F := ⟨_, rfl⟩
  have hFl : F.length = L.length := by rw [← hF, ← hQq]; exact qs_len_all hGd
  have hF4 : F.length ≤ 4 := by omega
  have HF := Lib.hid hF
  have HFl := Lib.hid hFl
  have HQq := Lib.hid hQq
  have hE3 := hE2.trans (Ext.alloc (Ext.refl w2) (.cells #[.int .i64 S.sh, .slice (some ⟨gW, 0, none⟩) S.ws.length cW, .slice (some ⟨gF, 0, none⟩) S.fs.length cF] 35))
  have hR3 := hR.ext (Ext.alloc (Ext.refl w2) (.cells #[.int .i64 S.sh, .slice (some ⟨gW, 0, none⟩) S.ws.length cW, .slice (some ⟨gF, 0, none⟩) S.fs.length cF] 35))
  clear hF hFl hQq hR hE2
  go_upto_region 2 with fail
  generalize w2.alloc (.cells #[.int .i64 S.sh, .slice (some ⟨gW, 0, none⟩) S.ws.length cW, .slice (some ⟨gF, 0, none⟩) S.fs.length cF] 35) = w3 at *
  go_wp2_with fail
  go_at_call 15
  refine (queue_to A c L Q L.length _ hR3 rfl (by omega) (fun i hi => by have := hGd.of hi; omega) HQq.out).mono ?_
  rintro e w4 ⟨gq, rfl, hQ, hE4⟩
  have hE0 := hE3.trans hE4
  have hR4 := hR3.ext hE4
  clear hE3 hE4 hR3
  go_wp2_with fail
  go_at_call 20
  refine (first_to _ 3 Q F _ hQ hQ3 HF.out).mono ?_
  rintro e w5 ⟨rfl, hE5⟩
  replace hE0 := hE0.trans hE5
  have hR5 := hR4.ext hE5
  replace hQ := hQ.ext hE5
  clear hR4 hE5
  cases F with
  | nil =>
    have hL0 : L.length = 0 := by rw [← HFl.out]; rfl
    have d1 : decide ((0 : Int) < L.length) = false := decide_eq_false (by omega)
    have d1' : decide (0 < L.length) = false := decide_eq_false (by omega)
    unfold headV
    go_upto_region 4 with fail
    have hE6 := hE0.trans (Ext.alloc (Ext.refl w5) (.cells #[.int .i64 0, .int .i64 0, .int .i64 0, .int .i64 0, .int .i64 0] 24))
    replace hQ := hQ.ext (Ext.alloc (Ext.refl w5) (.cells #[.int .i64 0, .int .i64 0, .int .i64 0, .int .i64 0, .int .i64 0] 24))
    generalize w5.alloc (.cells #[.int .i64 0, .int .i64 0, .int .i64 0, .int .i64 0, .int .i64 0] 24) = w6 at hE6 hQ ⊢
    go_wp2_with (first | (go_at_call 17; refine (prefix_nil _ 3 Q [] _ hQ hQ3 HF.out (by simp)).mono ?_; rintro e w7 ⟨rfl, hE7⟩) | (go_at_call 12; refine (awake_any _).mono ?_; rintro e w8 ⟨rfl, hE8⟩))
    go_ret
    exact ⟨rfl, by (repeat (first | (with_reducible exact Ext.refl _) | assumption | (with_reducible refine Ext.alloc ?_ _) | (with_reducible refine Ext.drew ?_) | (with_reducible refine Ext.drewL ?_) | refine Ext.trans ?_ (by assumption)))⟩
  | cons f F' =>
    obtain ⟨F, hFe⟩ : ∃ F, f :: F' = F := ⟨_, rfl⟩
    have hL0 : 0 < L.length := by rw [← HFl.out]; simp
    have d1 : decide ((0 : Int) < L.length) = true := decide_eq_true (by omega)
    have d1' : decide (0 < L.length) = true := decide_eq_true (by omega)
    have hmem : ∀ i ∈ L, i ∈ f :: F' := fun i hi => by
      have := (mem_qs hGd (i := i)).2 hi
      rw [HQq.out, HF.out] at this
      exact this
    have hasc : (f :: F').Pairwise (fun i j => i.st < j.st) := by
      have := qs_asc hGd
      rw [HQq.out, HF.out] at this
      exact this
    have hfL : f ∈ L := (mem_qs hGd).1 (by rw [HQq.out, HF.out]; exact List.mem_cons_self)
    have hfb := hGd.of hfL
    have Hk : RowKit.Hid (∀ i ∈ L, (i = f ∨ (i.q ≠ f.q ∧ f.st < i.st)) ∧ prefB F [i.q] = decide (f.q = i.q)) := Lib.hid (fun i hi => by
      refine ⟨?_, by rw [← hFe]; exact prefB_one f F' i.q⟩
      rcases List.mem_cons.1 (hmem i hi) with e | e
      · exact .inl e
      · have h1 := (List.pairwise_cons.1 hasc).1 i e
        refine .inr ⟨fun hq => ?_, h1⟩
        rw [hGd.inj hi hfL hq] at h1
        omega)
    rw [hFe] at HF HFl hF4
    clear hmem hasc hFe hfL
    have HGd := Lib.hid hGd
    clear hGd
    unfold headV
    go_upto_region 4 with fail
    have hEn := Ext.alloc (Ext.refl w5) (.cells #[.int .i64 f.q, .int .i64 f.b, .int .i64 f.f, .int .i64 f.l, .int .i64 f.w] 24)
    have hE6 := hE0.trans hEn
    have hR6 := hR5.ext hEn
    replace hQ := hQ.ext hEn
    have kf : Blk (w5.alloc (.cells #[.int .i64 f.q, .int .i64 f.b, .int .i64 f.f, .int .i64 f.l, .int .i64 f.w] 24)) w5.heap.size 24 #[.int .i64 f.q, .int .i64 f.b, .int .i64 f.f, .int .i64 f.l, .int .i64 f.w] := Blk.new rfl
    clear hE0 hR5 hEn
    generalize w5.alloc (.cells #[.int .i64 f.q, .int .i64 f.b, .int .i64 f.f, .int .i64 f.l, .int .i64 f.w] 24) = w6 at *
    generalize w5.heap.size = gf at *
    go_wp2_with fail
    go_loopw [37] (fun i wr => ∃ k : Nat, k ≤ L.length ∧ i = .int .i64 k ∧ Ext w6 wr) (fun i _ => L.length - (intOf i).toNat)
    case atStart => exact ⟨0, by omega, rfl, by (repeat (first | (with_reducible exact Ext.refl _) | assumption | (with_reducible refine Ext.alloc ?_ _) | (with_reducible refine Ext.drew ?_) | (with_reducible refine Ext.drewL ?_) | refine Ext.trans ?_ (by assumption)))⟩
    case round =>
      obtain ⟨k, hk, rfl, hE⟩ := hrel
      by_cases hlt : k < L.length
      · have hdec : decide ((k : Int) < L.length) = true := by simp; omega
        have hdec' : decide (k < L.length) = true := by simp; omega
        have hkI : (k : Int) < L.length := by omega
        obtain ⟨i, hi⟩ : ∃ i, L[k]? = some i := ⟨_, List.getElem?_eq_getElem hlt⟩
        obtain ⟨b1, o1, rfl, c0, c1, c2, c3, c4⟩ := inc_at (hR6.ext hE) hi
        have l1 := cell_lt c0
        have him := List.mem_of_getElem? hi
        have hib := HGd.out.of him
        have hii := Hk.out i him
        have kf1 := kf.ext hE
        have hQ1 := hQ.ext hE
        clear hi him
        obtain ⟨hcase, hpf⟩ := hii
        have hEn := Ext.alloc (Ext.refl wr) (.cells #[.int .i64 i.q, .int .i64 i.b, .int .i64 i.f, .int .i64 i.l, .int .i64 i.w] 24)
        have ki : Blk (wr.alloc (.cells #[.int .i64 i.q, .int .i64 i.b, .int .i64 i.f, .int .i64 i.l, .int .i64 i.w] 24)) wr.heap.size 24 #[.int .i64 i.q, .int .i64 i.b, .int .i64 i.f, .int .i64 i.l, .int .i64 i.w] := Blk.new rfl
        go_upto_region 11 with fail
        have kf2 := kf1.ext hEn
        have hQ2 := hQ1.ext hEn
        have hE1 := hE.trans hEn
        clear hE hEn c0 c1 c2 c3 c4 l1 kf1 hQ1
        generalize wr.alloc (.cells #[.int .i64 i.q, .int .i64 i.b, .int .i64 i.f, .int .i64 i.l, .int .i64 i.w] 24) = wi at *
        generalize wr.heap.size = gi at *
        have cf := kf2.cell
        have lf := kf2.lt
        have ci := ki.cell
        have li := ki.lt
        rcases hcase with hif | ⟨hne, hst⟩
        · subst hif
          have hpf1 : prefB F [i.q] = true := by rw [hpf]; simp
          have Hpf := Lib.hid hpf1
          have Hst := Lib.hid (show decide (i.st < i.st) = true → True from fun _ => trivial)
          clear hpf hpf1
          refine wp_region_ext [(true, 0), (true, 1), (true, 2), (true, 3), (true, 4), (true, 5), (false, 6), (true, 7), (true, 8), (true, 9), (true, 10), (true, 11), (true, 12), (true, 15), (true, 16), (true, 17), (false, 13), (false, 14), (true, 18), (true, 19)] Try.mixed (by kernel_rfl) (by simp only [pick, List.filterMap_cons, List.filterMap_nil, List.getElem?_toArray, List.getElem?_cons_succ, List.getElem?_cons_zero, Option.map_some]; rfl) ?_
          intro hx
          repeat (first
            | (refine wpL_take hx (v := ?_) (by rfl) (fun _ hc => ?_) ?_
               rotate_left
               focus (go_simp; (try go_ints); exact rfl)
               simp only [Act.put, List.setIfInBounds_toArray, List.set_cons_zero, List.set_cons_succ])
            | (refine wpL_skip (by rfl) ?_; simp only [Act.put, List.setIfInBounds_toArray, List.set_cons_zero, List.set_cons_succ])
            | (refine wpL_call (by rfl) (fun K hK => ?_); go_simp; go_at_call 10; refine (before_to f i true _ (by omega) (by omega) (by omega) (by omega) (by omega) (by omega) (by omega) (by omega) Hst.out).mono ?_; rintro e w1 ⟨rfl, hb⟩; have hc := Ext.cell hb; refine hK _ _ (hb) ?_; clear hK; intro hr; replace hx := hx.trans hr; clear hr; simp only [Act.put, List.setIfInBounds_toArray, List.set_cons_zero, List.set_cons_succ])
            | (refine wpL_call (by rfl) (fun K hK => ?_); go_simp; go_at_call 17; refine (prefix_one _ _ 3 _ Q F i.q _ _ (hQ.ext (by (repeat (first | (with_reducible exact Ext.refl _) | assumption | (with_reducible refine Ext.alloc ?_ _) | (with_reducible refine Ext.drew ?_) | (with_reducible refine Ext.drewL ?_) | refine Ext.trans ?_ (by assumption))))) (by omega) HF.out (by omega) (Rd.ext (rd_one _ _ 3) (by (repeat (first | (with_reducible exact Ext.refl _) | assumption | (with_reducible refine Ext.alloc ?_ _) | (with_reducible refine Ext.drew ?_) | (with_reducible refine Ext.drewL ?_) | refine Ext.trans ?_ (by assumption))))) Hpf.out).mono ?_; rintro e w1 ⟨rfl, hb⟩; have hc := Ext.cell hb; refine hK _ _ (hb) ?_; clear hK; intro hr; replace hx := hx.trans hr; clear hr; simp only [Act.put, List.setIfInBounds_toArray, List.set_cons_zero, List.set_cons_succ])
            | (refine wpL_call (by rfl) (fun K hK => ?_); go_simp; (first | (refine hK _ _ ?_ ?_; (focus ((repeat (first | (with_reducible exact Ext.refl _) | assumption | (with_reducible refine Ext.alloc ?_ _) | (with_reducible refine Ext.drew ?_) | (with_reducible refine Ext.drewL ?_) | refine Ext.trans ?_ (by assumption))); done))) | (refine hK undef _ ?_ ?_; (focus ((repeat (first | (with_reducible exact Ext.refl _) | assumption | (with_reducible refine Ext.alloc ?_ _) | (with_reducible refine Ext.drew ?_) | (with_reducible refine Ext.drewL ?_) | refine Ext.trans ?_ (by assumption))); done)))); clear hK; intro hr; replace hx := hx.trans hr; clear hr; try simp only [Act.put, List.setIfInBounds_toArray, List.set_cons_zero, List.set_cons_succ]))
          refine wpL_end ?_
          go_wp2
          go_roundw
          case rel => exact ⟨k + 1, by omega, by go_num, by (repeat (first | (with_reducible exact Ext.refl _) | assumption | (with_reducible refine Ext.alloc ?_ _) | (with_reducible refine Ext.drew ?_) | (with_reducible refine Ext.drewL ?_) | refine Ext.trans ?_ (by assumption)))⟩
          case measure => simp [intOf]; omega
        · have hpf1 : prefB F [i.q] = false := by rw [hpf]; simpa using fun e => hne e.symm
          have Hpf := Lib.hid hpf1
          have Hst := Lib.hid (show decide (f.st < i.st) = true by simpa using hst)
          have dq : decide (i.q = f.q) = false := by simpa using hne
          have dq2 : (i.q == f.q) = false := by simpa using hne
          clear hpf hpf1 hst
          refine wp_region_ext [(true, 0), (true, 1), (true, 2), (true, 3), (true, 4), (true, 5), (false, 6), (true, 7), (true, 8), (true, 9), (true, 10), (true, 11), (true, 12), (true, 15), (true, 16), (true, 17), (false, 13), (false, 14), (true, 18), (true, 19)] Try.mixed (by kernel_rfl) (by simp only [pick, List.filterMap_cons, List.filterMap_nil, List.getElem?_toArray, List.getElem?_cons_succ, List.getElem?_cons_zero, Option.map_some]; rfl) ?_
          intro hx
          repeat (first
            | (refine wpL_take hx (v := ?_) (by rfl) (fun _ hc => ?_) ?_
               rotate_left
               focus (go_simp; (try go_ints); exact rfl)
               simp only [Act.put, List.setIfInBounds_toArray, List.set_cons_zero, List.set_cons_succ])
            | (refine wpL_skip (by rfl) ?_; simp only [Act.put, List.setIfInBounds_toArray, List.set_cons_zero, List.set_cons_succ])
            | (refine wpL_call (by rfl) (fun K hK => ?_); go_simp; go_at_call 10; refine (before_to f i true _ (by omega) (by omega) (by omega) (by omega) (by omega) (by omega) (by omega) (by omega) Hst.out).mono ?_; rintro e w1 ⟨rfl, hb⟩; have hc := Ext.cell hb; refine hK _ _ (hb) ?_; clear hK; intro hr; replace hx := hx.trans hr; clear hr; simp only [Act.put, List.setIfInBounds_toArray, List.set_cons_zero, List.set_cons_succ])
            | (refine wpL_call (by rfl) (fun K hK => ?_); go_simp; go_at_call 17; refine (prefix_one _ _ 3 _ Q F i.q _ _ (hQ.ext (by (repeat (first | (with_reducible exact Ext.refl _) | assumption | (with_reducible refine Ext.alloc ?_ _) | (with_reducible refine Ext.drew ?_) | (with_reducible refine Ext.drewL ?_) | refine Ext.trans ?_ (by assumption))))) (by omega) HF.out (by omega) (Rd.ext (rd_one _ _ 3) (by (repeat (first | (with_reducible exact Ext.refl _) | assumption | (with_reducible refine Ext.alloc ?_ _) | (with_reducible refine Ext.drew ?_) | (with_reducible refine Ext.drewL ?_) | refine Ext.trans ?_ (by assumption))))) Hpf.out).mono ?_; rintro e w1 ⟨rfl, hb⟩; have hc := Ext.cell hb; refine hK _ _ (hb) ?_; clear hK; intro hr; replace hx := hx.trans hr; clear hr; simp only [Act.put, List.setIfInBounds_toArray, List.set_cons_zero, List.set_cons_succ])
            | (refine wpL_call (by rfl) (fun K hK => ?_); go_simp; (first | (refine hK _ _ ?_ ?_; (focus ((repeat (first | (with_reducible exact Ext.refl _) | assumption | (with_reducible refine Ext.alloc ?_ _) | (with_reducible refine Ext.drew ?_) | (with_reducible refine Ext.drewL ?_) | refine Ext.trans ?_ (by assumption))); done))) | (refine hK undef _ ?_ ?_; (focus ((repeat (first | (with_reducible exact Ext.refl _) | assumption | (with_reducible refine Ext.alloc ?_ _) | (with_reducible refine Ext.drew ?_) | (with_reducible refine Ext.drewL ?_) | refine Ext.trans ?_ (by assumption))); done)))); clear hK; intro hr; replace hx := hx.trans hr; clear hr; try simp only [Act.put, List.setIfInBounds_toArray, List.set_cons_zero, List.set_cons_succ]))
          refine wpL_end ?_
          go_wp2
          go_roundw
          case rel => exact ⟨k + 1, by omega, by go_num, by (repeat (first | (with_reducible exact Ext.refl _) | assumption | (with_reducible refine Ext.alloc ?_ _) | (with_reducible refine Ext.drew ?_) | (with_reducible refine Ext.drewL ?_) | refine Ext.trans ?_ (by assumption)))⟩
          case measure => simp [intOf]; omega
      · have hdec : decide ((k : Int) < L.length) = false := by simp; omega
        have hdec' : decide (k < L.length) = false := by simp; omega
        go_wp2_with (first | (go_at_call 12; refine (awake_any _).mono ?_; rintro e w8 ⟨rfl, hE8⟩))
        go_ret
        exact ⟨rfl, by (repeat (first | (with_reducible exact Ext.refl _) | assumption | (with_reducible refine Ext.alloc ?_ _) | (with_reducible refine Ext.drew ?_) | (with_reducible refine Ext.drewL ?_) | refine Ext.trans ?_ (by assumption)))⟩
end Go.Proofs.Ytljkadpconghnaa
