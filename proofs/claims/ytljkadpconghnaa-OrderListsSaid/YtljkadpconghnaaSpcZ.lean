/- The walk of the reference's Prefix. Conditions: the ranges that each theorem states. -/
import Derived.Test.YtljkadpconghnaaSpcX
namespace Go.Proofs.Ytljkadpconghnaa
open Go.RowKit Go.Draw

theorem perm_sub : ∀ (zs T : List Int), zs.Nodup → (∀ z ∈ zs, z ∈ T) → T.length ≤ zs.length → T.Perm zs
  | [], T, _, _, hl => by
    have : T = [] := List.eq_nil_of_length_eq_zero (by simpa using hl)
    subst this
    exact List.Perm.refl _
  | z :: zs, T, hn, hs, hl => by
    have hz := hs z List.mem_cons_self
    have h1 := List.perm_cons_erase hz
    have hn' := List.nodup_cons.1 hn
    have h2 := perm_sub zs (T.erase z) hn'.2 (fun y hy => (List.mem_erase_of_ne (by rintro rfl; exact hn'.1 hy)).2 (hs y (List.mem_cons_of_mem _ hy))) (by
      rw [List.length_erase_of_mem hz]
      simp only [List.length_cons] at hl
      omega)
    exact h1.trans (h2.cons z)
theorem prefB_true {F : List Inc} {zs : List Int} {n : Nat} (hl : zs.length = n) (hle : n ≤ F.length) (hn : (zs.take n).Nodup) (hs : ∀ z ∈ zs.take n, z ∈ (F.take n).map (·.q)) : prefB F zs = true := by
  subst hl
  rw [List.take_length] at hn hs
  exact (prefB_iff F zs).2 ⟨hle, perm_sub zs _ hn hs (by simp; omega), hn⟩
theorem prefB_dup {F : List Inc} {zs : List Int} {j k : Nat} {z : Int} (hj : zs[j]? = some z) (hk : zs[k]? = some z) (hjk : j < k) : prefB F zs = false := by
  refine Bool.eq_false_iff.2 fun ht => ?_
  have hn := ((prefB_iff F zs).1 ht).2.2
  have h1 := (List.getElem?_eq_some_iff.1 hj)
  have h2 := (List.getElem?_eq_some_iff.1 hk)
  exact List.pairwise_iff_getElem.1 hn j k h1.1 h2.1 hjk (by rw [h1.2, h2.2])
theorem prefB_out {F : List Inc} {zs : List Int} {k n : Nat} {z : Int} (hl : zs.length = n) (hk : zs[k]? = some z) (h : z ∉ (F.take n).map (·.q)) : prefB F zs = false := by
  subst hl
  refine Bool.eq_false_iff.2 fun ht => ?_
  have hp := ((prefB_iff F zs).1 ht).2.1
  exact h (hp.mem_iff.2 (List.mem_of_getElem? hk))
theorem prefB_miss {F : List Inc} {zs : List Int} {m n : Nat} {i : Inc} (hl : zs.length = n) (hk : F[m]? = some i) (hm : m < n) (hp : prefB F zs = true) : i.q ∈ zs := by
  subst hl
  have hp := ((prefB_iff F zs).1 hp).2.1
  refine hp.mem_iff.1 (List.mem_map.2 ⟨i, ?_, rfl⟩)
  exact List.mem_of_getElem? (i := m) (by rw [List.getElem?_take, if_pos hm]; exact hk)
theorem prefB_long {F : List Inc} {zs : List Int} (h : ¬ zs.length ≤ F.length) : prefB F zs = false := by
  unfold prefB
  rw [show decide (zs.length ≤ F.length) = false by simpa using h]
  rfl
theorem rall_to (A : Option Addr) (c : Nat) (Q : List (List Inc)) (F : List Inc) (w : World) (h : BRd w A Q) (hn : Q.length ≤ 1000) (hF : Q.flatten = F) (hf : F.length ≤ 100000) :
    Calls Try.prog 19 #[.slice A Q.length c] w (RetIncs w F) := by
  subst hF
  exact rall_any A c Q w h hn hf
theorem inc_in {w : World} {b o n : Nat} {l : List Inc} (h : Rd w (some ⟨b, o, none⟩) n 5 (flatI l)) {k : Nat} {i : Inc} (hk : l[k]? = some i) :
    w.cell? ⟨b, o + k * 5, none⟩ = some (.int .i64 i.q) ∧ w.cell? ⟨b, o + k * 5 + 1, none⟩ = some (.int .i64 i.b) ∧ w.cell? ⟨b, o + k * 5 + 2, none⟩ = some (.int .i64 i.f) ∧ w.cell? ⟨b, o + k * 5 + 3, none⟩ = some (.int .i64 i.l) ∧ w.cell? ⟨b, o + k * 5 + 4, none⟩ = some (.int .i64 i.w) := by
  obtain ⟨b', o', he, h1⟩ := inc_at h hk
  simp only [Option.some.injEq, Addr.mk.injEq, and_true] at he
  obtain ⟨rfl, rfl⟩ := he
  exact h1
theorem z_in {w : World} {b o n : Nat} {zs : List Int} (h : Rd w (some ⟨b, o, none⟩) n 1 (ints zs)) {k : Nat} {z : Int} (hk : zs[k]? = some z) : w.cell? ⟨b, o + k, none⟩ = some (.int .i64 z) := by
  have hl := (List.getElem?_eq_some_iff.1 hk).1
  have h1 := h.1
  simp only [ints, List.length_map] at h1
  obtain ⟨b', o', he, hc⟩ := h.2 (by omega)
  simp only [Option.some.injEq, Addr.mk.injEq, and_true] at he
  obtain ⟨rfl, rfl⟩ := he
  exact hc k _ (by simp [ints, hk])
theorem rd_ad {w : World} {A : Option Addr} {n size : Nat} {xs : List Value} (h : Rd w A n size xs) (hn : 0 < n) : ∃ b o, A = some ⟨b, o, none⟩ := by
  obtain ⟨b, o, e, _⟩ := h.2 hn
  exact ⟨b, o, e⟩
theorem snoc_mem {F : List Inc} {m : Nat} {i : Inc} (hi : F[m]? = some i) (z : Int) : z ∈ (F.take (m + 1)).map (·.q) ↔ z ∈ (F.take m).map (·.q) ∨ i.q = z := by
  rw [List.take_add_one, hi]
  simp only [Option.toList, List.map_append, List.map_cons, List.map_nil, List.mem_append, List.mem_singleton]
  exact ⟨fun h => h.imp_right Eq.symm, fun h => h.imp_right Eq.symm⟩
theorem snoc_memz {zs : List Int} {m : Nat} {y : Int} (hi : zs[m]? = some y) (z : Int) : z ∈ zs.take (m + 1) ↔ z ∈ zs.take m ∨ y = z := by
  rw [List.take_add_one, hi]
  simp only [Option.toList, List.mem_append, List.mem_singleton]
  exact ⟨fun h => h.imp_right Eq.symm, fun h => h.imp_right Eq.symm⟩
set_option maxRecDepth 100000 in
set_option maxHeartbeats 4000000 in
theorem rprefix_any (A D : Option Addr) (a c : Nat) (Q : List (List Inc)) (F : List Inc) (zs : List Int) (w : World) (h : BRd w A Q) (hn : Q.length ≤ 1000) (hF : Q.flatten = F) (hf : F.length ≤ 1000) (hz : Rd w D zs.length 1 (ints zs)) (hzl : zs.length ≤ 1000) :
    Calls Try.prog 23 #[.slice A Q.length a, .slice D zs.length c] w fun r w' => r = .returned (.bool (prefB F zs)) ∧ Ext w w' := by
  have HF := Lib.hid hF
  clear hF
  go_enter Try.func23, Try.ntmps23
  by_cases hle : zs.length ≤ F.length
  · have d1 : decide ((F.length : Int) < zs.length) = false := by (first | omega | (simp; done) | (simp; omega))
    have d1' : decide (F.length < zs.length) = false := by (first | omega | (simp; done) | (simp; omega))
    have hleI : (zs.length : Int) ≤ F.length := by omega
    obtain ⟨n, hzn⟩ : ∃ n, zs.length = n := ⟨_, rfl⟩
    have Hzn := Lib.hid hzn
    rw [hzn] at hz hzl hle d1 d1' hleI ⊢
    clear hzn
    go_wp2_with (first | (go_at_call 19; refine (rall_to A a Q F _ h hn HF.out (by omega)).mono ?_; rintro e w1 ⟨B, b, rfl, hB, hE1⟩; have hcap := own_cap hB; have hcapI : (n : Int) ≤ b := by omega))
    have hR := Rd.of_own hB
    have hzR := hz.ext hE1
    clear hB h hz
    go_loopw [26] (fun i wr => ∃ k : Nat, k ≤ n ∧ i = .int .i64 k ∧ (zs.take k).Nodup ∧ (∀ z ∈ zs.take k, z ∈ (F.take n).map (·.q)) ∧ Ext w1 wr) (fun i _ => n - (intOf i).toNat)
    case atStart => exact ⟨0, by omega, rfl, by simp, by simp, by (repeat (first | (with_reducible exact Ext.refl _) | assumption | (with_reducible refine Ext.alloc ?_ _) | (with_reducible refine Ext.drew ?_) | (with_reducible refine Ext.drewL ?_) | refine Ext.trans ?_ (by assumption)))⟩
    case round =>
      obtain ⟨k, hk, rfl, hnd, hsub, hE⟩ := hrel
      have Hnd := Lib.hid hnd
      have Hsub := Lib.hid hsub
      clear hnd hsub
      by_cases hlt : k < n
      · have hdec : decide ((k : Int) < n) = true := by simp; omega
        have hdec' : decide (k < n) = true := by simp; omega
        have hkI : (k : Int) < n := by omega
        obtain ⟨z, hzk⟩ : ∃ z, zs[k]? = some z := ⟨_, List.getElem?_eq_getElem (by have := Hzn.out; omega)⟩
        obtain ⟨bD, oD, rfl⟩ := rd_ad hzR (by omega)
        obtain ⟨bB, oB, rfl⟩ := rd_ad hR (by omega)
        have ck := z_in (hzR.ext hE) hzk
        have lk := cell_lt ck
        have Hzk := Lib.hid hzk
        clear hzk
        go_wp2_with fail
        go_loopw [8] (fun s wi => ∃ j : Nat, j ≤ k ∧ s = .int .i64 j ∧ z ∉ zs.take j ∧ Ext w1 wi) (fun s _ => k - (intOf s).toNat)
        case atStart => exact ⟨0, by omega, rfl, by simp, hE⟩
        case round =>
          clear ck lk hE hdec hdec'
          obtain ⟨j, hj, rfl, hnm, hE⟩ := hrel
          have Hnm := Lib.hid hnm
          clear hnm
          by_cases hjk : j < k
          · have e1 : decide ((j : Int) < k) = true := by simp; omega
            have e1' : decide (j < k) = true := by simp; omega
            have hjI : (j : Int) < n := by omega
            have e2 : decide ((j : Int) < n) = true := by simp; omega
            have e2' : decide (j < n) = true := by simp; omega
            obtain ⟨y, hy⟩ : ∃ y, zs[j]? = some y := ⟨_, List.getElem?_eq_getElem (by have := Hzn.out; omega)⟩
            have cy := z_in (hzR.ext hE) hy
            have ly := cell_lt cy
            have Hy := Lib.hid hy
            clear hy
            by_cases hyz : y = z
            · subst hyz
              have Hp := Lib.hid (prefB_dup (F := F) Hy.out Hzk.out hjk)
              go_wp2_with fail
              go_ret
              exact ⟨ret_bool Hp.out.symm, hE1.trans hE⟩
            · have e3 : decide (y = z) = false := by simpa using hyz
              have e3' : (y == z) = false := by simpa using hyz
              have Hyz := Lib.hid hyz
              clear hyz
              go_wp2_with fail
              go_roundw
              case rel => exact ⟨j + 1, by omega, by go_num, fun hm => ((snoc_memz Hy.out z).1 hm).elim Hnm.out Hyz.out, hE⟩
              case measure => simp [intOf]; omega
          · have e1 : decide ((j : Int) < k) = false := by simp; omega
            have e1' : decide (j < k) = false := by simp; omega
            have hjk' : j = k := by omega
            subst hjk'
            go_wp2_with fail
            go_loopw [9, 47] (fun f s wi => ∃ (m : Nat) (fb : Bool), m ≤ n ∧ s = .int .i64 m ∧ f = .bool fb ∧ (fb = true ↔ z ∈ (F.take m).map (·.q)) ∧ Ext w1 wi) (fun _ s _ => n - (intOf s).toNat)
            case atStart => exact ⟨0, false, by omega, rfl, rfl, by simp, hE⟩
            case round =>
              clear hE e1 e1'
              obtain ⟨m, fb, hm, rfl, rfl, hfb, hE⟩ := hrel
              have Hfb := Lib.hid hfb
              clear hfb
              by_cases hmn : m < n
              · have e1 : decide ((m : Int) < n) = true := by simp; omega
                have e1' : decide (m < n) = true := by simp; omega
                have hmI : (m : Int) < n := by omega
                obtain ⟨i, hi⟩ : ∃ i, F[m]? = some i := ⟨_, List.getElem?_eq_getElem (by omega)⟩
                obtain ⟨c0, c1, c2, c3, c4⟩ := inc_in (hR.ext hE) hi
                have l1 := cell_lt c0
                have Hi := Lib.hid hi
                clear hi
                cases fb with
                | true =>
                  go_wp2_with fail
                  go_roundw
                  case rel => exact ⟨m + 1, true, by omega, by go_num, rfl, by rw [snoc_mem Hi.out]; exact ⟨fun _ => .inl (Hfb.out.1 rfl), fun _ => rfl⟩, by (repeat (first | (with_reducible exact Ext.refl _) | assumption | (with_reducible refine Ext.alloc ?_ _) | (with_reducible refine Ext.drew ?_) | (with_reducible refine Ext.drewL ?_) | refine Ext.trans ?_ (by assumption)))⟩
                  case measure => simp [intOf]; omega
                | false =>
                  by_cases hiz : i.q = z
                  · have e3 : decide (i.q = z) = true := by simpa using hiz
                    have e3' : (i.q == z) = true := by simpa using hiz
                    have Hiz := Lib.hid hiz
                    clear hiz
                    go_wp2_with fail
                    go_roundw
                    case rel => exact ⟨m + 1, true, by omega, by go_num, rfl, by rw [snoc_mem Hi.out]; exact ⟨fun _ => .inr Hiz.out, fun _ => rfl⟩, by (repeat (first | (with_reducible exact Ext.refl _) | assumption | (with_reducible refine Ext.alloc ?_ _) | (with_reducible refine Ext.drew ?_) | (with_reducible refine Ext.drewL ?_) | refine Ext.trans ?_ (by assumption)))⟩
                    case measure => simp [intOf]; omega
                  · have e3 : decide (i.q = z) = false := by simpa using hiz
                    have e3' : (i.q == z) = false := by simpa using hiz
                    have Hiz := Lib.hid hiz
                    clear hiz
                    go_wp2_with fail
                    go_roundw
                    case rel => exact ⟨m + 1, false, by omega, by go_num, rfl, by rw [snoc_mem Hi.out]; exact ⟨(fun h => by cases h), fun h => h.elim Hfb.out.2 (fun h => absurd h Hiz.out)⟩, by (repeat (first | (with_reducible exact Ext.refl _) | assumption | (with_reducible refine Ext.alloc ?_ _) | (with_reducible refine Ext.drew ?_) | (with_reducible refine Ext.drewL ?_) | refine Ext.trans ?_ (by assumption)))⟩
                    case measure => simp [intOf]; omega
              · have e1 : decide ((m : Int) < n) = false := by simp; omega
                have e1' : decide (m < n) = false := by simp; omega
                have hmn' : m = n := by omega
                subst hmn'
                cases fb with
                | true =>
                  go_wp2_with fail
                  go_roundw
                  case rel =>
                    refine ⟨j + 1, by omega, by go_num, ?_, ?_, hE⟩
                    · rw [List.take_add_one, Hzk.out]
                      refine List.nodup_append.2 ⟨Hnd.out, by simp, ?_⟩
                      intro x hx y hy
                      simp only [Option.toList, List.mem_singleton] at hy
                      subst hy
                      rintro rfl
                      exact Hnm.out hx
                    · intro x hx
                      rcases (snoc_memz Hzk.out x).1 hx with hx | rfl
                      · exact Hsub.out x hx
                      · exact Hfb.out.1 rfl
                  case measure => simp [intOf]; omega
                | false =>
                  have Hp := Lib.hid (prefB_out (F := F) Hzn.out Hzk.out (fun hm => by have := Hfb.out.2 hm; cases this))
                  go_wp2_with fail
                  go_ret
                  exact ⟨ret_bool Hp.out.symm, hE1.trans hE⟩
      · have hdec : decide ((k : Int) < n) = false := by simp; omega
        have hdec' : decide (k < n) = false := by simp; omega
        have hkn : k = n := by omega
        subst hkn
        have Hp := Lib.hid (prefB_true (F := F) Hzn.out hle Hnd.out Hsub.out)
        clear Hnd Hsub
        go_wp2_with fail
        go_loopw [67] (fun s wi => ∃ m : Nat, m ≤ k ∧ s = .int .i64 m ∧ Ext w1 wi) (fun s _ => k - (intOf s).toNat)
        case atStart => exact ⟨0, by omega, rfl, hE⟩
        case round =>
          clear hE hdec hdec'
          obtain ⟨m, hm, rfl, hE⟩ := hrel
          by_cases hmn : m < k
          · have e1 : decide ((m : Int) < k) = true := by simp; omega
            have e1' : decide (m < k) = true := by simp; omega
            have hmI : (m : Int) < k := by omega
            obtain ⟨bD, oD, rfl⟩ := rd_ad hzR (by omega)
            obtain ⟨bB, oB, rfl⟩ := rd_ad hR (by omega)
            obtain ⟨i, hi⟩ : ∃ i, F[m]? = some i := ⟨_, List.getElem?_eq_getElem (by omega)⟩
            obtain ⟨c0, c1, c2, c3, c4⟩ := inc_in (hR.ext hE) hi
            have l1 := cell_lt c0
            have Hi := Lib.hid hi
            clear hi
            have hEn := Ext.alloc (Ext.refl wr) (.cells #[.int .i64 i.q, .int .i64 i.b, .int .i64 i.f, .int .i64 i.l, .int .i64 i.w] 24)
            have ki : Blk (wr.alloc (.cells #[.int .i64 i.q, .int .i64 i.b, .int .i64 i.f, .int .i64 i.l, .int .i64 i.w] 24)) wr.heap.size 24 #[.int .i64 i.q, .int .i64 i.b, .int .i64 i.f, .int .i64 i.l, .int .i64 i.w] := Blk.new rfl
            go_upto_region 24 with fail
            have hEa := hE.trans hEn
            clear c0 c1 c2 c3 c4 l1 hE hEn
            generalize wr.alloc (.cells #[.int .i64 i.q, .int .i64 i.b, .int .i64 i.f, .int .i64 i.l, .int .i64 i.w] 24) = wj at *
            generalize wr.heap.size = gi at *
            go_wp2_with fail
            go_loopw [14, 73] (fun f s wl => ∃ (t : Nat) (fb : Bool), t ≤ k ∧ s = .int .i64 t ∧ f = .bool fb ∧ (fb = true ↔ i.q ∈ zs.take t) ∧ Ext wj wl) (fun _ s _ => k - (intOf s).toNat)
            case atStart => exact ⟨0, false, by omega, rfl, rfl, by simp, by (repeat (first | (with_reducible exact Ext.refl _) | assumption | (with_reducible refine Ext.alloc ?_ _) | (with_reducible refine Ext.drew ?_) | (with_reducible refine Ext.drewL ?_) | refine Ext.trans ?_ (by assumption)))⟩
            case round =>
              clear e1 e1'
              obtain ⟨t, fb, ht, rfl, rfl, hfb, hE⟩ := hrel
              have Hfb := Lib.hid hfb
              clear hfb
              have kj := ki.ext hE
              have ci := kj.cell
              have li := kj.lt
              by_cases htn : t < k
              · have e1 : decide ((t : Int) < k) = true := by simp; omega
                have e1' : decide (t < k) = true := by simp; omega
                have htI : (t : Int) < k := by omega
                obtain ⟨y, hy⟩ : ∃ y, zs[t]? = some y := ⟨_, List.getElem?_eq_getElem (by have := Hzn.out; omega)⟩
                have cy := z_in (hzR.ext (hEa.trans hE)) hy
                have ly := cell_lt cy
                have Hy := Lib.hid hy
                clear hy
                cases fb with
                | true =>
                  go_wp2_with fail
                  go_roundw
                  case rel => exact ⟨t + 1, true, by omega, by go_num, rfl, by rw [snoc_memz Hy.out]; exact ⟨fun _ => .inl (Hfb.out.1 rfl), fun _ => rfl⟩, by (repeat (first | (with_reducible exact Ext.refl _) | assumption | (with_reducible refine Ext.alloc ?_ _) | (with_reducible refine Ext.drew ?_) | (with_reducible refine Ext.drewL ?_) | refine Ext.trans ?_ (by assumption)))⟩
                  case measure => simp [intOf]; omega
                | false =>
                  by_cases hiz : i.q = y
                  · have e3 : decide (i.q = y) = true := by simpa using hiz
                    have e3' : (i.q == y) = true := by simpa using hiz
                    have Hiz := Lib.hid hiz
                    clear hiz
                    go_wp2_with fail
                    go_roundw
                    case rel => exact ⟨t + 1, true, by omega, by go_num, rfl, by rw [snoc_memz Hy.out]; exact ⟨fun _ => .inr Hiz.out.symm, fun _ => rfl⟩, by (repeat (first | (with_reducible exact Ext.refl _) | assumption | (with_reducible refine Ext.alloc ?_ _) | (with_reducible refine Ext.drew ?_) | (with_reducible refine Ext.drewL ?_) | refine Ext.trans ?_ (by assumption)))⟩
                    case measure => simp [intOf]; omega
                  · have e3 : decide (i.q = y) = false := by simpa using hiz
                    have e3' : (i.q == y) = false := by simpa using hiz
                    have Hiz := Lib.hid hiz
                    clear hiz
                    go_wp2_with fail
                    go_roundw
                    case rel => exact ⟨t + 1, false, by omega, by go_num, rfl, by rw [snoc_memz Hy.out]; exact ⟨(fun h => by cases h), fun h => h.elim Hfb.out.2 (fun h => absurd h.symm Hiz.out)⟩, by (repeat (first | (with_reducible exact Ext.refl _) | assumption | (with_reducible refine Ext.alloc ?_ _) | (with_reducible refine Ext.drew ?_) | (with_reducible refine Ext.drewL ?_) | refine Ext.trans ?_ (by assumption)))⟩
                    case measure => simp [intOf]; omega
              · have e1 : decide ((t : Int) < k) = false := by simp; omega
                have e1' : decide (t < k) = false := by simp; omega
                have htn' : t = k := by omega
                have hmem := prefB_miss Hzn.out Hi.out hmn Hp.out
                have hft : fb = true := Hfb.out.2 (by rw [htn', ← Hzn.out, List.take_length]; exact hmem)
                subst hft
                clear hmem
                go_wp2_with fail
                go_roundw
                case rel => exact ⟨m + 1, by omega, by go_num, hEa.trans hE⟩
                case measure => simp [intOf]; omega
          · have e1 : decide ((m : Int) < k) = false := by simp; omega
            have e1' : decide (m < k) = false := by simp; omega
            go_wp2_with fail
            go_ret
            exact ⟨ret_bool Hp.out.symm, hE1.trans hE⟩
  · have d1 : decide ((F.length : Int) < zs.length) = true := by (first | omega | (simp; done) | (simp; omega))
    have d1' : decide (F.length < zs.length) = true := by (first | omega | (simp; done) | (simp; omega))
    have Hp := Lib.hid (prefB_long hle)
    go_wp2_with (first | (go_at_call 19; refine (rall_to A a Q F _ h hn HF.out (by omega)).mono ?_; rintro e w1 ⟨B, b, rfl, hB, hE1⟩))
    go_ret
    exact ⟨ret_bool Hp.out.symm, hE1⟩
end Go.Proofs.Ytljkadpconghnaa
