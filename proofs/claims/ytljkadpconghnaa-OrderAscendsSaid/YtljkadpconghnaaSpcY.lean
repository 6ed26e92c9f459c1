/- The walk of the law OrderAscends. Conditions: the ranges that each theorem states. -/
import Derived.Test.YtljkadpconghnaaSpcZ
namespace Go.Proofs.Ytljkadpconghnaa
open Go.RowKit Go.Draw

/-- the choice of some of the first k increments: closed, and with a gap -/
structure Asc (F : List Inc) (k : Nat) (zs : List Int) (cl gp : Bool) : Prop where
  sub : zs.Sublist ((F.take k).map (·.q))
  gapF : gp = false → zs = (F.take k).map (·.q)
  gapT : gp = true → zs.length < k
  clT : cl = true → zs = (F.take zs.length).map (·.q)
  clF : cl = false → gp = true ∧ ∃ (p : Nat) (i : Inc), zs.length ≤ p ∧ p < k ∧ F[p]? = some i ∧ i.q ∈ zs
section
variable {F : List Inc} {k : Nat} {zs : List Int} {cl gp : Bool} {i : Inc}
theorem Asc.start (F : List Inc) : Asc F 0 [] true false := ⟨by simp, fun _ => by simp, fun h => by simp at h, fun _ => by simp, fun h => by simp at h⟩
theorem take_q (hi : F[k]? = some i) : (F.take (k + 1)).map (·.q) = (F.take k).map (·.q) ++ [i.q] := by rw [List.take_add_one, hi]; simp
theorem Asc.add (h : Asc F k zs cl gp) (hi : F[k]? = some i) : Asc F (k + 1) (zs ++ [i.q]) (cl && !gp) gp := by
  have hk := (List.getElem?_eq_some_iff.1 hi).1
  refine ⟨?_, fun hg => ?_, fun hg => ?_, fun hc => ?_, fun hc => ?_⟩
  · rw [take_q hi]
    exact h.sub.append (List.Sublist.refl _)
  · rw [take_q hi, ← h.gapF hg]
  · have := h.gapT hg
    simp
    omega
  · simp only [Bool.and_eq_true, Bool.not_eq_true'] at hc
    have e := h.gapF hc.2
    have hl : zs.length = k := by
      rw [e]
      simp
      omega
    rw [List.length_append, List.length_singleton, hl, take_q hi, ← e]
  · have hg : gp = true := by
      cases hgp : gp with
      | true => rfl
      | false =>
        rw [hgp] at hc
        simp only [Bool.not_false, Bool.and_true] at hc
        have := (h.clF hc).1
        rw [hgp] at this
        cases this
    refine ⟨hg, k, i, ?_, by omega, hi, by simp⟩
    have := h.gapT hg
    simp
    omega
theorem Asc.pass (h : Asc F k zs cl gp) (hi : F[k]? = some i) : Asc F (k + 1) zs cl true := by
  have hk := (List.getElem?_eq_some_iff.1 hi).1
  refine ⟨?_, fun hg => by simp at hg, fun _ => ?_, h.clT, fun hc => ?_⟩
  · rw [take_q hi]
    exact h.sub.trans (List.sublist_append_left _ _)
  · have := h.sub.length_le
    simp at this
    omega
  · obtain ⟨_, p, j, h1, h2, h3⟩ := h.clF hc
    exact ⟨rfl, p, j, h1, by omega, h3⟩
theorem Asc.fin (h : Asc F F.length zs cl gp) (hn : (F.map (·.q)).Nodup) : prefB F zs = cl := by
  have hs := h.sub
  rw [List.take_length] at hs
  have hlen := hs.length_le
  rw [List.length_map] at hlen
  cases cl with
  | true =>
    refine (prefB_iff F zs).2 ⟨hlen, ?_, hn.sublist hs⟩
    exact List.Perm.of_eq (h.clT rfl).symm
  | false =>
    obtain ⟨_, p, i, h1, h2, h3, h4⟩ := h.clF rfl
    refine Bool.eq_false_iff.2 fun ht => ?_
    have hp := ((prefB_iff F zs).1 ht).2.1
    have hm := hp.mem_iff.2 h4
    obtain ⟨m, hm⟩ := List.mem_iff_getElem?.1 hm
    rw [List.getElem?_map, Option.map_eq_some_iff] at hm
    obtain ⟨j, hj, hjq⟩ := hm
    rw [List.getElem?_take] at hj
    split at hj
    · rename_i hlt
      have hml := (List.getElem?_eq_some_iff.1 hj).1
      have hne := List.pairwise_iff_getElem.1 hn m p (by simpa using hml) (by simpa using h2) (by omega)
      simp only [List.getElem_map] at hne
      rw [List.getElem?_eq_getElem hml] at hj
      rw [List.getElem?_eq_getElem h2] at h3
      injection hj with hj
      injection h3 with h3
      rw [hj, h3] at hne
      exact hne hjq
    · cases hj
end
theorem first_frame {S : Sp} {B : Nat} {l : List (Ch × Nat)} {i : Inc} (hS : Chs S (chs l)) (hG : GoodL B l) (hB : 8 ≤ B) (hi : i ∈ l.map incOf) : ∃ (g : Nat) (f : Fr), i.f = (g : Int) ∧ S.fs[g]? = some f ∧ f.s = i.st := by
  rw [List.mem_map] at hi
  obtain ⟨p, hp, rfl⟩ := hi
  obtain ⟨k, hk⟩ := List.mem_iff_getElem?.1 hp
  obtain ⟨_, _, _, _, hw, hc⟩ := hG k p hk
  have hpos : 0 < p.1.c.length := by
    rw [← hc]
    unfold ceilN
    rw [Nat.div_pos_iff]
    omega
  have h0 : p.1.c[0]? = some p.1.c[0] := List.getElem?_eq_getElem hpos
  have hm : p.1 ∈ chs l := by
    unfold chs
    rw [List.mem_reverse, List.mem_map]
    exact ⟨p, hp, rfl⟩
  exact ⟨_, _, posI_some h0, hS.fr p.1 hm 0 _ h0, rfl⟩
theorem fr_in {w : World} {b o n : Nat} {l : List Fr} (h : Rd w (some ⟨b, o, none⟩) n 3 (frs l)) {k : Nat} {F : Fr} (hk : l[k]? = some F) :
    w.cell? ⟨b, o + k * 3, none⟩ = some (.int .i64 F.o) ∧ w.cell? ⟨b, o + k * 3 + 1, none⟩ = some (.int .i64 F.s) ∧ w.cell? ⟨b, o + k * 3 + 2, none⟩ = some (.int .i64 F.n) := by
  obtain ⟨b', o', he, h1⟩ := fr_at h hk
  simp only [Option.some.injEq, Addr.mk.injEq, and_true] at he
  obtain ⟨rfl, rfl⟩ := he
  exact h1
theorem prefix_to (A D : Option Addr) (a c n : Nat) (Q : List (List Inc)) (F : List Inc) (zs : List Int) (b : Bool) (w : World) (h : BRd w A Q) (hn : Q.length ≤ 1000) (hF : Q.flatten = F) (hf : F.length ≤ 1000) (hz : Rd w D n 1 (ints zs)) (hzn : zs.length = n) (hzl : zs.length ≤ 1000) (hb : prefB F zs = b) :
    Calls Try.prog 17 #[.slice A Q.length a, .slice D n c] w fun r w' => r = .returned (.bool b) ∧ Ext w w' := by
  subst hzn
  subst hb
  exact prefix_any A D a c Q F zs w h hn hF hf hz hzl
theorem stamp_to (i : Inc) (z : Int) (w : World) (h1 : 0 ≤ i.b) (h2 : i.b < 4)  (h3 : 0 ≤ i.q) (h4 : i.q < 4294967296) (hz : i.st = z) :
    Calls Try.prog 8 #[.agg #[.int .i64 i.q, .int .i64 i.b, .int .i64 i.f, .int .i64 i.l, .int .i64 i.w]] w fun r w' => r = .returned (.int .i64 z) ∧ Ext w w' := by
  subst hz
  exact stamp_any _ _ _ _ _ w h1 h2 h3 h4
def AscRel (F : List Inc) (gz : Nat) (w5 : World) (s9 s10 s11 s31 : Value) (wr : World) : Prop := ∃ (k : Nat) (ys : List Int) (cl gp : Bool) (D : Option Addr) (n d : Nat), k ≤ F.length ∧ s31 = .int .i64 k ∧ s9 = .slice D n d ∧ s10 = .bool cl ∧ s11 = .bool gp ∧ n ≤ k ∧ wr.ownsRow gz 3 1 (.slice D n d) n (ints ys) ∧ Asc F k ys cl gp ∧ Ext w5 wr
theorem AscRel.mk {F : List Inc} {gz : Nat} {w5 : World} {s9 s10 s11 s31 : Value} {wr : World} (k : Nat) (ys : List Int) (cl gp : Bool) (D : Option Addr) (n d : Nat) (h1 : k ≤ F.length) (h2 : s31 = .int .i64 k) (h3 : s9 = .slice D n d) (h4 : s10 = .bool cl) (h5 : s11 = .bool gp) (h6 : n ≤ k) (h7 : wr.ownsRow gz 3 1 (.slice D n d) n (ints ys)) (h8 : Asc F k ys cl gp) (h9 : Ext w5 wr) : AscRel F gz w5 s9 s10 s11 s31 wr := ⟨k, ys, cl, gp, D, n, d, h1, h2, h3, h4, h5, h6, h7, h8, h9⟩
set_option maxRecDepth 100000 in
set_option maxHeartbeats 4000000 in
theorem lawAscends_any (A0 : Option Addr) (n0 c0 : Nat) (zs : List Int) (bits : Int) (w : World) (hz : Rd w A0 n0 1 (ints zs)) (hn : n0 ≤ 9223372036854775807) :
    Calls Try.prog 4 #[.slice A0 n0 c0, .int .i64 bits] w fun r w' => r = .returned (.bool true) ∧ Ext w w' := by
  go_enter Try.func4, Try.ntmps4
  go_wp2_with fail
  go_at_call 14
  refine (deck_any A0 n0 c0 zs _ hz hn).mono ?_
  rintro e w1 ⟨rfl, hD1, hE1⟩
  go_wp2_with fail
  go_at_call 13
  refine (space_any _ _ hD1).mono ?_
  rintro e w2 ⟨S, gW, cW, gF, cF, l, A, c, B, rfl, hB, hS, hG, hl4, hO, hR, hD2, hB2⟩
  have hE2 := But.ext hE1 hB2 (fun x hx => by have := List.mem_singleton.1 hx; omega)
  have hGd := hG.good hl4
  have hb8 := (pow_bd hS.sh).1
  rw [hB] at hb8
  have Hfr := Lib.hid (fun (i : Inc) (hi : i ∈ l.map incOf) => first_frame hS hG hb8 hi)
  have hfl := hS.n2
  obtain ⟨L, hL⟩ : ∃ L, l.map incOf = L := ⟨_, rfl⟩
  have hll : l.length = L.length := by rw [← hL]; simp
  rw [hL] at hGd hR Hfr
  have hL4 : L.length ≤ 4 := hGd.1
  obtain ⟨Q, hQq⟩ : ∃ Q, qs L = Q := ⟨_, rfl⟩
  have hQ3 : Q.length ≤ 1000 := by rw [← hQq]; simp [qs]
  obtain ⟨F, hF⟩ : ∃ F, Q.flatten = F := ⟨_, rfl⟩
  have hFl : F.length = L.length := by rw [← hF, ← hQq]; exact qs_len_all hGd
  have hF4 : F.length ≤ 4 := by omega
  rw [hll, ← hFl] at hR ⊢
  have Hmem : RowKit.Hid (∀ i ∈ F, i ∈ L) := Lib.hid (fun i hi => (mem_qs hGd).1 (by rw [hQq, hF]; exact hi))
  have Hasc : RowKit.Hid (F.Pairwise (fun i j => i.st < j.st)) := Lib.hid (by
    have := qs_asc hGd
    rw [hQq, hF] at this
    exact this)
  have Hnd : RowKit.Hid ((F.map (·.q)).Nodup) := Lib.hid (by
    have := qs_nodup hGd
    rw [hQq, hF] at this
    exact this)
  have HF := Lib.hid hF
  have HFl := Lib.hid hFl
  have HQq := Lib.hid hQq
  have HGd := Lib.hid hGd
  have hFr := hO.F
  clear hB hS hG hl4 hO hD1 hD2 hB2 hE1 hL hll hz hGd hFl hF hQq hb8
  have hEn := Ext.alloc (Ext.refl w2) (.cells #[.int .i64 S.sh, .slice (some ⟨gW, 0, none⟩) S.ws.length cW, .slice (some ⟨gF, 0, none⟩) S.fs.length cF] 35)
  have kS : Blk (w2.alloc (.cells #[.int .i64 S.sh, .slice (some ⟨gW, 0, none⟩) S.ws.length cW, .slice (some ⟨gF, 0, none⟩) S.fs.length cF] 35)) w2.heap.size 35 #[.int .i64 S.sh, .slice (some ⟨gW, 0, none⟩) S.ws.length cW, .slice (some ⟨gF, 0, none⟩) S.fs.length cF] := Blk.new rfl
  go_upto_region 2 with fail
  have hE3 := hE2.trans hEn
  have hR3 := hR.ext hEn
  have hFr3 := hFr.ext hEn
  clear hR hE2 hEn hFr
  generalize w2.alloc (.cells #[.int .i64 S.sh, .slice (some ⟨gW, 0, none⟩) S.ws.length cW, .slice (some ⟨gF, 0, none⟩) S.fs.length cF] 35) = w3 at *
  generalize w2.heap.size = gS at *
  go_wp2_with fail
  go_at_call 15
  refine (queue_to A c L Q F.length _ hR3 HFl.out (by have := HFl.out; omega) (fun i hi => by have := HGd.out.of hi; omega) HQq.out).mono ?_
  rintro e w4 ⟨gq, rfl, hQ, hE4⟩
  have hE0 := hE3.trans hE4
  have hFr4 := hFr3.ext hE4
  replace kS := kS.ext hE4
  clear hE3 hE4 hR3 hFr3
  go_wp2_with fail
  go_at_call 16
  refine (all_to _ 3 Q F _ hQ hQ3 HF.out (by omega)).mono ?_
  rintro e w5 ⟨B5, b5, rfl, hA5, hE5⟩
  replace hE0 := hE0.trans hE5
  have hFr5 := hFr4.ext hE5
  have hA := Rd.of_own hA5
  replace hQ := hQ.ext hE5
  replace kS := kS.ext hE5
  clear hE5 hFr4 hA5
  go_wp2_with fail
  generalize hgz : w5.heap.size = gz
  go_loopw [9, 10, 11, 31] (fun s9 s10 s11 s31 wr => AscRel F gz w5 s9 s10 s11 s31 wr) (fun _ _ _ s31 _ => F.length - (intOf s31).toNat)
  case atStart => exact AscRel.mk 0 [] true false none 0 0 (by omega) rfl rfl rfl rfl (by omega) (own_nil _ _ _ _) (Asc.start F) (by (repeat (first | (with_reducible exact Ext.refl _) | assumption | (with_reducible refine Ext.alloc ?_ _) | (with_reducible refine Ext.drew ?_) | (with_reducible refine Ext.drewL ?_) | refine Ext.trans ?_ (by assumption))))
  case round =>
    obtain ⟨k, ys, cl, gp, D, n, d, hk, rfl, rfl, rfl, rfl, hnk, hZ, hC, hE⟩ := hrel
    have HC := Lib.hid hC
    clear hC
    by_cases hlt : k < F.length
    · have hdec : decide ((k : Int) < F.length) = true := by simp; omega
      have hdec' : decide (k < F.length) = true := by simp; omega
      have hkI : (k : Int) < F.length := by omega
      obtain ⟨i, hi⟩ : ∃ i, F[k]? = some i := ⟨_, List.getElem?_eq_getElem hlt⟩
      obtain ⟨b1, o1, rfl, c0, c1, c2, c3, c4⟩ := inc_at (hA.ext hE) hi
      have l1 := cell_lt c0
      have hiL := Hmem.out i (List.mem_of_getElem? hi)
      have hib := HGd.out.of hiL
      obtain ⟨g, fr, hg, hfr, hst⟩ := Hfr.out i hiL
      have hgl := (List.getElem?_eq_some_iff.1 hfr).1
      have Hsm := Lib.hid hst.symm
      have Hi := Lib.hid hi
      have Hfr1 := Lib.hid hfr
      have j1 : decide (i.f < 0) = false := decide_eq_false (by omega)
      have j2 : decide ((S.fs.length : Int) ≤ i.f) = false := decide_eq_false (by omega)
      have j3 : decide (0 ≤ i.f) = true := decide_eq_true (by omega)
      have j4 : decide (i.f < S.fs.length) = true := decide_eq_true (by omega)
      have j5 : i.f.toNat = g := by omega
      have j6 : (0 : Int) ≤ i.f := by omega
      have j7 : i.f < S.fs.length := by omega
      have j8 : decide (g < S.fs.length) = true := decide_eq_true hgl
      clear hi hiL hfr hst hg
      have hEn := Ext.alloc (Ext.refl wr) (.cells #[.int .i64 i.q, .int .i64 i.b, .int .i64 i.f, .int .i64 i.l, .int .i64 i.w] 24)
      have ki : Blk (wr.alloc (.cells #[.int .i64 i.q, .int .i64 i.b, .int .i64 i.f, .int .i64 i.l, .int .i64 i.w] 24)) wr.heap.size 24 #[.int .i64 i.q, .int .i64 i.b, .int .i64 i.f, .int .i64 i.l, .int .i64 i.w] := Blk.new rfl
      go_upto_region 11 with fail
      have hE1 := hE.trans hEn
      have hZ1 := own_ext hZ hEn
      clear hE hEn c0 c1 c2 c3 c4 l1 hZ
      generalize wr.alloc (.cells #[.int .i64 i.q, .int .i64 i.b, .int .i64 i.f, .int .i64 i.l, .int .i64 i.w] 24) = wi at *
      generalize wr.heap.size = gi at *
      have kS1 := kS.ext hE1
      have cS := kS1.cell
      have lS := kS1.lt
      have ci := ki.cell
      have li := ki.lt
      have f1 := (fr_in (hFr5.ext hE1) Hfr1.out).2.1
      have lf := cell_lt f1
      simp only [Nat.zero_add] at f1
      rcases Nat.eq_zero_or_pos k with hk0 | hk0
      · have d0 : decide ((0 : Int) < k) = false := decide_eq_false (by omega)
        have d0' : decide (0 < k) = false := decide_eq_false (by omega)
        clear hk0
        refine wp_region_ext [(true, 0), (true, 1), (true, 2), (true, 3), (true, 4), (true, 5), (true, 6), (true, 7), (true, 8), (false, 9), (true, 10), (true, 11), (true, 12), (true, 13), (true, 14), (true, 15), (true, 16), (true, 17), (true, 18), (true, 19), (true, 20), (true, 21), (true, 22), (true, 23), (true, 24), (true, 25), (true, 26), (true, 27), (true, 28), (true, 29), (true, 30), (true, 31), (true, 32), (true, 33), (false, 34), (true, 35), (true, 36)] Try.mixed (by kernel_rfl) (by simp only [pick, List.filterMap_cons, List.filterMap_nil, List.getElem?_toArray, List.getElem?_cons_succ, List.getElem?_cons_zero, Option.map_some]; rfl) ?_
        intro hx
        repeat (first
          | (refine wpL_take hx (v := ?_) (by rfl) (fun _ hc => ?_) ?_
             rotate_left
             focus (go_simp; (try go_ints); exact rfl)
             simp only [Act.put, List.setIfInBounds_toArray, List.set_cons_zero, List.set_cons_succ])
          | (refine wpL_skip (by rfl) ?_; simp only [Act.put, List.setIfInBounds_toArray, List.set_cons_zero, List.set_cons_succ])
          | (refine wpL_call (by rfl) (fun K hK => ?_); go_simp; go_at_call 10; refine (before_to j i true _ (by omega) (by omega) (by omega) (by omega) (by omega) (by omega) (by omega) (by omega) Hst.out).mono ?_; rintro e w1 ⟨rfl, hb⟩; have hc := Ext.cell hb; refine hK _ _ (hb) ?_; clear hK; intro hr; replace hx := hx.trans hr; clear hr; simp only [Act.put, List.setIfInBounds_toArray, List.set_cons_zero, List.set_cons_succ])
          | (refine wpL_call (by rfl) (fun K hK => ?_); go_simp; go_at_call 8; refine (stamp_to i fr.s _ (by omega) (by omega) (by omega) (by omega) Hsm.out).mono ?_; rintro e w1 ⟨rfl, hb⟩; have hc := Ext.cell hb; refine hK _ _ (hb) ?_; clear hK; intro hr; replace hx := hx.trans hr; clear hr; simp only [Act.put, List.setIfInBounds_toArray, List.set_cons_zero, List.set_cons_succ])
          | (refine wpL_call (by rfl) (fun K hK => ?_); go_simp; (first | (refine hK _ _ ?_ ?_; (focus ((repeat (first | (with_reducible exact Ext.refl _) | assumption | (with_reducible refine Ext.alloc ?_ _) | (with_reducible refine Ext.drew ?_) | (with_reducible refine Ext.drewL ?_) | refine Ext.trans ?_ (by assumption))); done))) | (refine hK undef _ ?_ ?_; (focus ((repeat (first | (with_reducible exact Ext.refl _) | assumption | (with_reducible refine Ext.alloc ?_ _) | (with_reducible refine Ext.drew ?_) | (with_reducible refine Ext.drewL ?_) | refine Ext.trans ?_ (by assumption))); done)))); clear hK; intro hr; replace hx := hx.trans hr; clear hr; try simp only [Act.put, List.setIfInBounds_toArray, List.set_cons_zero, List.set_cons_succ]))
        refine wpL_end ?_
        have hxw : Ext wi w1 := by (repeat (first | (with_reducible exact Ext.refl _) | assumption | (with_reducible refine Ext.alloc ?_ _) | (with_reducible refine Ext.drew ?_) | (with_reducible refine Ext.drewL ?_) | refine Ext.trans ?_ (by assumption)))
        have hE9 : Ext w5 w1 := hE1.trans hxw
        have hZ9 : w1.ownsRow gz 3 1 (.slice D n d) n (ints ys) := own_ext hZ1 hxw
        have cx := Ext.cell hxw
        have hsz := hE9.size_le
        clear hE1 hZ1 hx hb
        go_upto_region 13 with fail
        go_wp2_with (first | (at_builtin; refine wpList_append rfl Try.elI _ _ rfl gz _ _ _ rfl (own_alloc hZ9 _) _ 1 1 _ rfl (rd_one _ _ _) (by simp [Value.oneCell']) (by omega) (by omega) (by (first | omega | (simp; done) | (simp; omega))) ?_; intro A2 a2 w2 hZ2 hg2 hat2))
        · have hEz := Ext.alloc hE9 (.cells #[.int .i64 i.q] 3)
          have hE10 : Ext w5 w2 := ext_grown hEz hg2 (own_alloc hZ9 _) (by omega)
          go_roundw
          case rel => exact AscRel.mk (k + 1) (ys ++ [i.q]) (cl && !gp) gp A2 (n + 1) a2 (by omega) (by go_num) rfl (by simp [*]) rfl (by omega) (by simpa [ints] using hZ2) (HC.out.add Hi.out) hE10
          case measure => simp [intOf]; omega
        · have hEz := Ext.alloc hE9 (.cells #[.int .i64 i.q] 3)
          have hE10 : Ext w5 w2 := ext_grown hEz hg2 (own_alloc hZ9 _) (by omega)
          go_roundw
          case rel => exact AscRel.mk (k + 1) (ys ++ [i.q]) (cl && !gp) gp A2 (n + 1) a2 (by omega) (by go_num) rfl (by simp [*]) rfl (by omega) (by simpa [ints] using hZ2) (HC.out.add Hi.out) hE10
          case measure => simp [intOf]; omega
        · go_roundw
          case rel => exact AscRel.mk (k + 1) ys cl true D n d (by omega) (by go_num) rfl rfl rfl (by omega) hZ9 (HC.out.pass Hi.out) hE9
          case measure => simp [intOf]; omega
      · have d0 : decide ((0 : Int) < k) = true := decide_eq_true (by omega)
        have d0' : decide (0 < k) = true := decide_eq_true (by omega)
        obtain ⟨m, hm⟩ : ∃ m, k = m + 1 := ⟨k - 1, by omega⟩
        have hm1 : (k : Int) - 1 = (m : Int) := by omega
        have hm2 : decide ((m : Int) < F.length) = true := decide_eq_true (by omega)
        have hm3 : decide (m < F.length) = true := decide_eq_true (by omega)
        have hm4 : (m : Int) < F.length := by omega
        obtain ⟨j, hj⟩ : ∃ j, F[m]? = some j := ⟨_, List.getElem?_eq_getElem (by omega)⟩
        obtain ⟨c0, c1, c2, c3, c4⟩ := inc_in (hA.ext hE1) hj
        have l1 := cell_lt c0
        have hjL := Hmem.out j (List.mem_of_getElem? hj)
        have hjb := HGd.out.of hjL
        have Hst := Lib.hid (show decide (j.st < i.st) = true by
          have h1 := List.getElem?_eq_some_iff.1 hj
          have h2 := List.getElem?_eq_some_iff.1 Hi.out
          have := List.pairwise_iff_getElem.1 Hasc.out m k h1.1 h2.1 (by omega)
          rw [h1.2, h2.2] at this
          simpa using this)
        have Hm := Lib.hid hm
        clear hj hjL hm
        refine wp_region_ext [(true, 0), (true, 1), (true, 2), (true, 3), (true, 4), (true, 5), (true, 6), (true, 7), (true, 8), (false, 9), (true, 10), (true, 11), (true, 12), (true, 13), (true, 14), (true, 15), (true, 16), (true, 17), (true, 18), (true, 19), (true, 20), (true, 21), (true, 22), (true, 23), (true, 24), (true, 25), (true, 26), (true, 27), (true, 28), (true, 29), (true, 30), (true, 31), (true, 32), (true, 33), (false, 34), (true, 35), (true, 36)] Try.mixed (by kernel_rfl) (by simp only [pick, List.filterMap_cons, List.filterMap_nil, List.getElem?_toArray, List.getElem?_cons_succ, List.getElem?_cons_zero, Option.map_some]; rfl) ?_
        intro hx
        repeat (first
          | (refine wpL_take hx (v := ?_) (by rfl) (fun _ hc => ?_) ?_
             rotate_left
             focus (go_simp; (try go_ints); exact rfl)
             simp only [Act.put, List.setIfInBounds_toArray, List.set_cons_zero, List.set_cons_succ])
          | (refine wpL_skip (by rfl) ?_; simp only [Act.put, List.setIfInBounds_toArray, List.set_cons_zero, List.set_cons_succ])
          | (refine wpL_call (by rfl) (fun K hK => ?_); go_simp; go_at_call 10; refine (before_to j i true _ (by omega) (by omega) (by omega) (by omega) (by omega) (by omega) (by omega) (by omega) Hst.out).mono ?_; rintro e w1 ⟨rfl, hb⟩; have hc := Ext.cell hb; refine hK _ _ (hb) ?_; clear hK; intro hr; replace hx := hx.trans hr; clear hr; simp only [Act.put, List.setIfInBounds_toArray, List.set_cons_zero, List.set_cons_succ])
          | (refine wpL_call (by rfl) (fun K hK => ?_); go_simp; go_at_call 8; refine (stamp_to i fr.s _ (by omega) (by omega) (by omega) (by omega) Hsm.out).mono ?_; rintro e w1 ⟨rfl, hb⟩; have hc := Ext.cell hb; refine hK _ _ (hb) ?_; clear hK; intro hr; replace hx := hx.trans hr; clear hr; simp only [Act.put, List.setIfInBounds_toArray, List.set_cons_zero, List.set_cons_succ])
          | (refine wpL_call (by rfl) (fun K hK => ?_); go_simp; (first | (refine hK _ _ ?_ ?_; (focus ((repeat (first | (with_reducible exact Ext.refl _) | assumption | (with_reducible refine Ext.alloc ?_ _) | (with_reducible refine Ext.drew ?_) | (with_reducible refine Ext.drewL ?_) | refine Ext.trans ?_ (by assumption))); done))) | (refine hK undef _ ?_ ?_; (focus ((repeat (first | (with_reducible exact Ext.refl _) | assumption | (with_reducible refine Ext.alloc ?_ _) | (with_reducible refine Ext.drew ?_) | (with_reducible refine Ext.drewL ?_) | refine Ext.trans ?_ (by assumption))); done)))); clear hK; intro hr; replace hx := hx.trans hr; clear hr; try simp only [Act.put, List.setIfInBounds_toArray, List.set_cons_zero, List.set_cons_succ]))
        refine wpL_end ?_
        have hxw : Ext wi w1 := by (repeat (first | (with_reducible exact Ext.refl _) | assumption | (with_reducible refine Ext.alloc ?_ _) | (with_reducible refine Ext.drew ?_) | (with_reducible refine Ext.drewL ?_) | refine Ext.trans ?_ (by assumption)))
        have hE9 : Ext w5 w1 := hE1.trans hxw
        have hZ9 : w1.ownsRow gz 3 1 (.slice D n d) n (ints ys) := own_ext hZ1 hxw
        have cx := Ext.cell hxw
        have hsz := hE9.size_le
        clear hE1 hZ1 hx hb
        go_upto_region 13 with fail
        go_wp2_with (first | (at_builtin; refine wpList_append rfl Try.elI _ _ rfl gz _ _ _ rfl (own_alloc hZ9 _) _ 1 1 _ rfl (rd_one _ _ _) (by simp [Value.oneCell']) (by omega) (by omega) (by (first | omega | (simp; done) | (simp; omega))) ?_; intro A2 a2 w2 hZ2 hg2 hat2))
        · have hEz := Ext.alloc hE9 (.cells #[.int .i64 i.q] 3)
          have hE10 : Ext w5 w2 := ext_grown hEz hg2 (own_alloc hZ9 _) (by omega)
          go_roundw
          case rel => exact AscRel.mk (k + 1) (ys ++ [i.q]) (cl && !gp) gp A2 (n + 1) a2 (by omega) (by go_num) rfl (by simp [*]) rfl (by omega) (by simpa [ints] using hZ2) (HC.out.add Hi.out) hE10
          case measure => simp [intOf]; omega
        · have hEz := Ext.alloc hE9 (.cells #[.int .i64 i.q] 3)
          have hE10 : Ext w5 w2 := ext_grown hEz hg2 (own_alloc hZ9 _) (by omega)
          go_roundw
          case rel => exact AscRel.mk (k + 1) (ys ++ [i.q]) (cl && !gp) gp A2 (n + 1) a2 (by omega) (by go_num) rfl (by simp [*]) rfl (by omega) (by simpa [ints] using hZ2) (HC.out.add Hi.out) hE10
          case measure => simp [intOf]; omega
        · go_roundw
          case rel => exact AscRel.mk (k + 1) ys cl true D n d (by omega) (by go_num) rfl rfl rfl (by omega) hZ9 (HC.out.pass Hi.out) hE9
          case measure => simp [intOf]; omega
    · have hdec : decide ((k : Int) < F.length) = false := by simp; omega
      have hdec' : decide (k < F.length) = false := by simp; omega
      have hke : k = F.length := by omega
      rw [hke] at HC
      have Hp := Lib.hid (HC.out.fin Hnd.out)
      have hZr := Rd.of_own hZ
      have hyl : ys.length = n := by
        have := hZr.1
        simpa [ints] using this
      have Hyl := Lib.hid hyl
      clear hyl
      go_wp2_with (first | (go_at_call 17; refine (prefix_to _ D 3 d n Q F ys cl _ (hQ.ext hE) hQ3 HF.out (by omega) hZr Hyl.out (by have := Hyl.out; omega) Hp.out).mono ?_; rintro e w7 ⟨rfl, hE7⟩) | (go_at_call 12; refine (awake_any _).mono ?_; rintro e w8 ⟨rfl, hE8⟩))
      go_ret
      exact ⟨rfl, by (repeat (first | (with_reducible exact Ext.refl _) | assumption | (with_reducible refine Ext.alloc ?_ _) | (with_reducible refine Ext.drew ?_) | (with_reducible refine Ext.drewL ?_) | refine Ext.trans ?_ (by assumption)))⟩
end Go.Proofs.Ytljkadpconghnaa
