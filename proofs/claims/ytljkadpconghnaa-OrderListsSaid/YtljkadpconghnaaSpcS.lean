/- The walks of belt.in, Oldest and First. Conditions: the ranges that each theorem states. -/
import Derived.Test.YtljkadpconghnaaSpcR
namespace Go.Proofs.Ytljkadpconghnaa
open Go.RowKit Go.Draw

set_option maxHeartbeats 1000000 in
theorem in_any (A : Option Addr) (n c k : Nat) (w : World) (hk : k < n) : Calls Try.prog 40 #[.slice A n c, .int .i64 k] w fun r w' => r = .returned (.bool true) ∧ w = w' := by
  have d1 : decide ((k : Int) < n) = true := by (first | omega | (simp; done) | (simp; omega))
  have d2 : decide (k < n) = true := by (first | omega | (simp; done) | (simp; omega))
  have d3 : decide ((0 : Int) ≤ k) = true := by (first | omega | (simp; done) | (simp; omega))
  go_enter Try.func40, Try.ntmps40
  go_wp2
  go_ret
  exact ⟨rfl, rfl⟩
def zeroI : Value := .agg #[.int .i64 0, .int .i64 0, .int .i64 0, .int .i64 0, .int .i64 0]
def headV : List Inc → Value
  | [] => .tuple #[.agg #[.int .i64 0, .int .i64 0, .int .i64 0, .int .i64 0, .int .i64 0], .bool false]
  | i :: _ => .tuple #[.agg #[.int .i64 i.q, .int .i64 i.b, .int .i64 i.f, .int .i64 i.l, .int .i64 i.w], .bool true]
theorem fin_oldest {Q : Ending → World → Prop} {a : Act} {W : World} {g1 : Nat} {v0 v1 v2 v3 v4 t3 : Value} (hd : a.defers = []) (h6 : a.tmps[4]?.getD undef = .pointer (some ⟨g1, 0, none⟩)) (h7 : a.tmps[5]?.getD undef = t3)
    (k1 : Blk W g1 24 #[v0, v1, v2, v3, v4]) (hQ : Q (.returned (.tuple #[.agg #[v0, v1, v2, v3, v4], t3])) W) :
    bodyPost Try.prog Try.f34 Q Exit.ret a W := by
  have c1 := k1.cell
  exact bodyPost_ret (v := .tuple #[.agg #[v0, v1, v2, v3, v4], t3]) (by simp [results, Try.results34, go_sem, h6, h7, c1]) hd hQ
theorem fin_first {Q : Ending → World → Prop} {a : Act} {W : World} {g1 : Nat} {v0 v1 v2 v3 v4 t3 : Value} (hd : a.defers = []) (h6 : a.tmps[2]?.getD undef = .pointer (some ⟨g1, 0, none⟩)) (h7 : a.tmps[3]?.getD undef = t3)
    (k1 : Blk W g1 24 #[v0, v1, v2, v3, v4]) (hQ : Q (.returned (.tuple #[.agg #[v0, v1, v2, v3, v4], t3])) W) :
    bodyPost Try.prog Try.f20 Q Exit.ret a W := by
  have c1 := k1.cell
  exact bodyPost_ret (v := .tuple #[.agg #[v0, v1, v2, v3, v4], t3]) (by simp [results, Try.results20, go_sem, h6, h7, c1]) hd hQ
theorem fin_rfirst {Q : Ending → World → Prop} {a : Act} {W : World} {g1 : Nat} {v0 v1 v2 v3 v4 t3 : Value} (hd : a.defers = []) (h6 : a.tmps[2]?.getD undef = .pointer (some ⟨g1, 0, none⟩)) (h7 : a.tmps[3]?.getD undef = t3)
    (k1 : Blk W g1 24 #[v0, v1, v2, v3, v4]) (hQ : Q (.returned (.tuple #[.agg #[v0, v1, v2, v3, v4], t3])) W) :
    bodyPost Try.prog Try.f21 Q Exit.ret a W := by
  have c1 := k1.cell
  exact bodyPost_ret (v := .tuple #[.agg #[v0, v1, v2, v3, v4], t3]) (by simp [results, Try.results21, go_sem, h6, h7, c1]) hd hQ
set_option maxRecDepth 100000 in
set_option maxHeartbeats 1000000 in
theorem oldest_any (A : Option Addr) (c k : Nat) (Q : List (List Inc)) (q : List Inc) (w : World) (h : BRd w A Q) (hq : Q[k]? = some q) : Calls Try.prog 34 #[.slice A Q.length c, .int .i64 k] w fun r w' => r = .returned (headV q) ∧ Ext w w' := by
  have hk := (List.getElem?_eq_some_iff.1 hq).1
  have hkI : (k : Int) < Q.length := by omega
  obtain ⟨b, o, P, cq, rfl, hc, hP⟩ := h.at_ hq
  have lC := cell_lt hc
  clear hq
  have k0 : Blk (w.alloc (.cells #[.int .i64 0, .int .i64 0, .int .i64 0, .int .i64 0, .int .i64 0] 24)) w.heap.size 24 #[.int .i64 0, .int .i64 0, .int .i64 0, .int .i64 0, .int .i64 0] := Blk.new rfl
  cases q with
  | nil =>
    simp only [List.length_nil] at hc
    go_enter Try.func34, Try.ntmps34
    go_wp2_with (first | (go_at_call 40; refine (in_any _ _ _ _ _ hk).mono ?_; rintro e w1 ⟨rfl, rfl⟩))
    exact fin_oldest (t3 := .bool false) rfl rfl rfl (Blk.new rfl) ⟨rfl, by (repeat (first | (with_reducible exact Ext.refl _) | assumption | (with_reducible refine Ext.alloc ?_ _) | (with_reducible refine Ext.drew ?_) | (with_reducible refine Ext.drewL ?_) | refine Ext.trans ?_ (by assumption)))⟩
  | cons i q =>
    obtain ⟨b2, o2, rfl, c0, c1, c2, c3, c4⟩ := inc_at hP (show (i :: q)[0]? = some i from rfl)
    simp only [Nat.zero_mul, Nat.add_zero] at c0 c1 c2 c3 c4
    have l2 := cell_lt c0
    have hq0 : ((i :: q).length == 0) = false := by simp
    have hqI : (0 : Int) < (i :: q).length := by simp
    generalize hql : (i :: q).length = ql at *
    go_enter Try.func34, Try.ntmps34
    go_wp2_with (first | (go_at_call 40; refine (in_any _ _ _ _ _ hk).mono ?_; rintro e w1 ⟨rfl, rfl⟩))
    exact fin_oldest (t3 := .bool true) rfl rfl rfl (Blk.new rfl) ⟨rfl, by (repeat (first | (with_reducible exact Ext.refl _) | assumption | (with_reducible refine Ext.alloc ?_ _) | (with_reducible refine Ext.drew ?_) | (with_reducible refine Ext.drewL ?_) | refine Ext.trans ?_ (by assumption)))⟩

theorem flat_head {Q : List (List Inc)} {k : Nat} {i : Inc} {q : List Inc} (h : (Q.take (k + 1)).flatten = (Q.take k).flatten ++ (i :: q)) (h0 : (Q.take k).flatten = []) : Q.flatten = i :: (q ++ (Q.drop (k + 1)).flatten) := by
  have e : Q.flatten = (Q.take (k + 1)).flatten ++ (Q.drop (k + 1)).flatten := by rw [← List.flatten_append, List.take_append_drop]
  rw [e, h, h0]
  rfl
set_option maxRecDepth 100000 in
set_option maxHeartbeats 1000000 in
theorem first_any (A : Option Addr) (c : Nat) (Q : List (List Inc)) (w : World) (h : BRd w A Q) (hn : Q.length ≤ 1000) : Calls Try.prog 20 #[.slice A Q.length c] w fun r w' => r = .returned (headV Q.flatten) ∧ Ext w w' := by
  go_enter Try.func20, Try.ntmps20
  go_wp2
  have k0 : Blk (w.alloc (.cells #[.int .i64 0, .int .i64 0, .int .i64 0, .int .i64 0, .int .i64 0] 24)) w.heap.size 24 #[.int .i64 0, .int .i64 0, .int .i64 0, .int .i64 0, .int .i64 0] := Blk.new rfl
  have hE0 : Ext w (w.alloc (.cells #[.int .i64 0, .int .i64 0, .int .i64 0, .int .i64 0, .int .i64 0] 24)) := by (repeat (first | (with_reducible exact Ext.refl _) | assumption | (with_reducible refine Ext.alloc ?_ _) | (with_reducible refine Ext.drew ?_) | (with_reducible refine Ext.drewL ?_) | refine Ext.trans ?_ (by assumption)))
  generalize w.alloc (.cells #[.int .i64 0, .int .i64 0, .int .i64 0, .int .i64 0, .int .i64 0] 24) = W at *
  go_loopw [9] (fun i wr => ∃ (k : Nat), k ≤ Q.length ∧ i = .int .i64 k ∧ (Q.take k).flatten = [] ∧ Ext W wr) (fun i _ => Q.length - (intOf i).toNat)
  case atStart => exact ⟨0, by omega, rfl, rfl, by (repeat (first | (with_reducible exact Ext.refl _) | assumption | (with_reducible refine Ext.alloc ?_ _) | (with_reducible refine Ext.drew ?_) | (with_reducible refine Ext.drewL ?_) | refine Ext.trans ?_ (by assumption)))⟩
  case round =>
    obtain ⟨k, hk, rfl, hem, hE⟩ := hrel
    have Hem := Lib.hid hem
    clear hem
    have k1 := k0.ext hE
    have c1 := k1.cell
    have f1 := k1.froz
    have l1 := k1.lt
    by_cases hlt : k < Q.length
    · have hdec : decide ((k : Int) < Q.length) = true := by simp; omega
      have hdec' : decide (k < Q.length) = true := by simp; omega
      have hkI : (k : Int) < Q.length := by omega
      obtain ⟨q, hq⟩ : ∃ q, Q[k]? = some q := ⟨_, List.getElem?_eq_getElem hlt⟩
      have Hq := Lib.hid hq
      clear hq
      cases q with
      | nil =>
        go_wp2_with (go_at_call 34; refine (oldest_any A c k Q [] _ (h.ext (hE0.trans hE)) Hq.out).mono ?_; rintro e w1 ⟨rfl, hE1⟩; simp only [headV])
        go_roundw
        case rel => exact ⟨k + 1, by omega, by go_num, by rw [flat_take Hq.out, Hem.out]; rfl, by (repeat (first | (with_reducible exact Ext.refl _) | assumption | (with_reducible refine Ext.alloc ?_ _) | (with_reducible refine Ext.drew ?_) | (with_reducible refine Ext.drewL ?_) | refine Ext.trans ?_ (by assumption)))⟩
        case measure => simp [intOf]; omega
      | cons i q =>
        go_wp2_with (go_at_call 34; refine (oldest_any A c k Q (i :: q) _ (h.ext (hE0.trans hE)) Hq.out).mono ?_; rintro e w1 ⟨rfl, hE1⟩; simp only [headV]; have k2 := k1.ext hE1; have c2 := k2.cell; have f2 := k2.froz; have l2 := k2.lt)
        have p1 := (((((k2.set_ 0 (.int .i64 i.q)).set_ 1 (.int .i64 i.b)).set_ 2 (.int .i64 i.f)).set_ 3 (.int .i64 i.l)).set_ 4 (.int .i64 i.w)).alloc (.cells #[.int .i64 i.q, .int .i64 i.b, .int .i64 i.f, .int .i64 i.l, .int .i64 i.w] 24)
        simp only [List.setIfInBounds_toArray, List.set_cons_zero, List.set_cons_succ] at p1
        refine fin_first (t3 := .bool true) rfl rfl rfl p1 ⟨by rw [flat_head (flat_take Hq.out) Hem.out]; rfl, ?_⟩
        refine Ext.alloc ?_ _
        repeat (with_reducible refine Ext.setCell ?_ (by simp) _)
        exact (hE0.trans hE).trans hE1
    · have hdec : decide ((k : Int) < Q.length) = false := by simp; omega
      have hdec' : decide (k < Q.length) = false := by simp; omega
      have hke : k = Q.length := by omega
      have hem := Hem.out
      rw [hke, List.take_length] at hem
      have Hem2 := Lib.hid hem
      clear hem hke
      go_wp2
      have p1 := ((((k1.set_ 0 (.int .i64 0)).set_ 1 (.int .i64 0)).set_ 2 (.int .i64 0)).set_ 3 (.int .i64 0)).set_ 4 (.int .i64 0)
      refine fin_first (t3 := .bool false) rfl rfl rfl p1 ⟨by rw [Hem2.out]; rfl, ?_⟩
      repeat (with_reducible refine Ext.setCell ?_ (by simp) _)
      exact hE0.trans hE
set_option maxRecDepth 100000 in
set_option maxHeartbeats 1000000 in
theorem rfirst_any (A : Option Addr) (c : Nat) (Q : List (List Inc)) (w : World) (h : BRd w A Q) (hn : Q.length ≤ 1000) (hf : Q.flatten.length ≤ 100000) : Calls Try.prog 21 #[.slice A Q.length c] w fun r w' => r = .returned (headV Q.flatten) ∧ Ext w w' := by
  go_enter Try.func21, Try.ntmps21
  have k0 : Blk (w.alloc (.cells #[.int .i64 0, .int .i64 0, .int .i64 0, .int .i64 0, .int .i64 0] 24)) w.heap.size 24 #[.int .i64 0, .int .i64 0, .int .i64 0, .int .i64 0, .int .i64 0] := Blk.new rfl
  have hE0 : Ext w (w.alloc (.cells #[.int .i64 0, .int .i64 0, .int .i64 0, .int .i64 0, .int .i64 0] 24)) := by (repeat (first | (with_reducible exact Ext.refl _) | assumption | (with_reducible refine Ext.alloc ?_ _) | (with_reducible refine Ext.drew ?_) | (with_reducible refine Ext.drewL ?_) | refine Ext.trans ?_ (by assumption)))
  go_wp2_with fail
  generalize w.alloc (.cells #[.int .i64 0, .int .i64 0, .int .i64 0, .int .i64 0, .int .i64 0] 24) = W at *
  go_at_call 19
  refine (rall_any A c Q _ (h.ext hE0) hn hf).mono ?_
  rintro e w1 ⟨B, b, rfl, hB, hE1⟩
  have hR := Rd.of_own hB
  have k1 := k0.ext hE1
  have c1 := k1.cell
  have f1 := k1.froz
  have l1 := k1.lt
  obtain ⟨F, hF⟩ : ∃ F, Q.flatten = F := ⟨_, rfl⟩
  rw [hF] at hR ⊢
  have HF := Lib.hid hF
  clear hF hB
  cases F with
  | nil =>
    simp only [List.length_nil]
    go_wp2
    have p1 := ((((k1.set_ 0 (.int .i64 0)).set_ 1 (.int .i64 0)).set_ 2 (.int .i64 0)).set_ 3 (.int .i64 0)).set_ 4 (.int .i64 0)
    refine fin_rfirst (t3 := .bool false) rfl rfl rfl p1 ⟨by rw [HF.out]; rfl, ?_⟩
    repeat (with_reducible refine Ext.setCell ?_ (by simp) _)
    exact hE0.trans hE1
  | cons i t =>
    obtain ⟨b2, o2, rfl, c0, c1', c2, c3, c4⟩ := inc_at hR (show (i :: t)[0]? = some i from rfl)
    simp only [Nat.zero_mul, Nat.add_zero] at c0 c1' c2 c3 c4
    have l2 := cell_lt c0
    have hqI : (0 : Int) < (i :: t).length := by simp
    have hq0 : (((i :: t).length : Int) == 0) = false := by simp; omega
    generalize hql : (i :: t).length = ql at *
    have Hql := Lib.hid hql
    clear hql
    go_wp2
    have p1 := ((((k1.set_ 0 (.int .i64 i.q)).set_ 1 (.int .i64 i.b)).set_ 2 (.int .i64 i.f)).set_ 3 (.int .i64 i.l)).set_ 4 (.int .i64 i.w)
    simp only [List.setIfInBounds_toArray, List.set_cons_zero, List.set_cons_succ] at p1
    refine fin_rfirst (t3 := .bool true) rfl rfl rfl p1 ⟨by rw [HF.out]; rfl, ?_⟩
    repeat (with_reducible refine Ext.setCell ?_ (by simp) _)
    exact hE0.trans hE1
end Go.Proofs.Ytljkadpconghnaa
