/- The walks of frame.Copy, pool.Free, bump.Owns and pool.Lift (references). Conditions: the ranges that each theorem states. -/
import Derived.Test.YtljkadpconghnaaSpcB
namespace Go.Proofs.Ytljkadpconghnaa
open Go.RowKit Go.Draw

def RetS (w : World) (S : Sp) (r : Ending) (w' : World) : Prop := ∃ gW cW gF cF, r = .returned (.agg #[.int .i64 S.sh, .slice (some ⟨gW, 0, none⟩) S.ws.length cW, .slice (some ⟨gF, 0, none⟩) S.fs.length cF]) ∧ SOw w' w.heap.size S gW cW gF cF ∧ Ext w w'
set_option maxRecDepth 100000 in
set_option maxHeartbeats 1000000 in
theorem copy_any (A B : Option Addr) (a b : Nat) (S : Sp) (w : World) (h : SRd w S A B) (h1 : 0 < S.ws.length) (h2 : S.ws.length ≤ 100000) (h3 : 0 < S.fs.length) (h4 : S.fs.length ≤ 64) :
    Calls Try.prog 43 #[spV S A a B b] w (RetS w S) := by
  unfold spV
  go_enter Try.func43, Try.ntmps43
  go_wp2
  refine wp_region_but [w.heap.size + 1] [(true, 0), (true, 1), (true, 2), (true, 3), (true, 5), (true, 6), (false, 4), (false, 7), (true, 8), (false, 9)] Try.mixed (by kernel_rfl) (by simp only [pick, List.filterMap_cons, List.filterMap_nil, List.getElem?_toArray, List.getElem?_cons_succ, List.getElem?_cons_zero, Option.map_some]; rfl) ?_
  intro hx hy
  repeat (first
    | (refine wpL_takeB hx (v := ?_) (by rfl) (fun _ hc => ?_) ?_
       rotate_left
       focus (go_simp; (try go_ints); exact rfl)
       simp only [Act.put, List.setIfInBounds_toArray, List.set_cons_zero, List.set_cons_succ])
    | (refine wpL_skip (by rfl) ?_; simp only [Act.put, List.setIfInBounds_toArray, List.set_cons_zero, List.set_cons_succ])
    | (refine wpL_call (by rfl) (fun K hK => ?_); go_simp; go_at_call 58; refine (clone_any A a S.ws _ (h.W.ext (by (repeat (first | (with_reducible exact Ext.refl _) | assumption | (with_reducible refine Ext.alloc ?_ _) | (with_reducible refine Ext.drew ?_) | (with_reducible refine Ext.drewL ?_) | refine Ext.trans ?_ (by assumption))))) (by omega)).mono ?_; rintro e w1 ⟨A', a', rfl, hA', hE1⟩; have hz := hE1.size_le; (try simp at hz); refine hK _ _ ((hE1).but _) ?_; clear hK; intro hr; replace hx := hx.trans hr; clear hr; replace hy := Ext.trans hy (Ext.trans (by (repeat (first | (with_reducible exact Ext.refl _) | assumption | (with_reducible refine Ext.alloc ?_ _) | (with_reducible refine Ext.drew ?_) | (with_reducible refine Ext.drewL ?_) | refine Ext.trans ?_ (by assumption)))) (hE1)); simp only [Act.put, List.setIfInBounds_toArray, List.set_cons_zero, List.set_cons_succ])
    | (refine wpL_call (by rfl) (fun K hK => ?_); refine wp_clone Try.elF _ _ rfl rfl _ B _ b (frs S.fs) rfl (h.F.ext (by (repeat (first | (with_reducible exact Ext.refl _) | assumption | (with_reducible refine Ext.alloc ?_ _) | (with_reducible refine Ext.drew ?_) | (with_reducible refine Ext.drewL ?_) | refine Ext.trans ?_ (by assumption))))) (one_frs S.fs) (by omega) (by omega) (Nat.le_refl _) ?_; intro B' b' w2 hB' hE2; have hz2 := hE2.size_le; (try simp at hz2); refine hK _ _ ((hE2).but _) ?_; clear hK; intro hr; replace hx := hx.trans hr; clear hr; replace hy := Ext.trans hy (Ext.trans (by (repeat (first | (with_reducible exact Ext.refl _) | assumption | (with_reducible refine Ext.alloc ?_ _) | (with_reducible refine Ext.drew ?_) | (with_reducible refine Ext.drewL ?_) | refine Ext.trans ?_ (by assumption)))) (hE2)); simp only [Act.put, List.setIfInBounds_toArray, List.set_cons_zero, List.set_cons_succ])
    | (refine wpL_call (by rfl) (fun K hK => ?_); go_simp; (first | (refine hK _ _ ?_ ?_; (focus ((repeat (first | (with_reducible exact But.refl _ _) | assumption | (with_reducible refine But.drew ?_) | (with_reducible refine But.drewL ?_) | (with_reducible refine But.setCell ?_ ?_ _; rotate_left; (focus (simp; done))) | (with_reducible refine But.setCellL ?_ ?_; rotate_left; (focus (simp; done))) | (with_reducible refine But.alloc2 ?_ ?_; rotate_left; (focus (simp [World.setCell]; done))) | (with_reducible refine But.allocL ?_ ?_ ?_; rotate_left; (focus (simp; done)); (focus (simp; done))) | (with_reducible refine But.alloc ?_ _))); done))) | (refine hK undef _ ?_ ?_; (focus ((repeat (first | (with_reducible exact But.refl _ _) | assumption | (with_reducible refine But.drew ?_) | (with_reducible refine But.drewL ?_) | (with_reducible refine But.setCell ?_ ?_ _; rotate_left; (focus (simp; done))) | (with_reducible refine But.setCellL ?_ ?_; rotate_left; (focus (simp; done))) | (with_reducible refine But.alloc2 ?_ ?_; rotate_left; (focus (simp [World.setCell]; done))) | (with_reducible refine But.allocL ?_ ?_ ?_; rotate_left; (focus (simp; done)); (focus (simp; done))) | (with_reducible refine But.alloc ?_ _))); done)))); clear hK; intro hr; replace hx := hx.trans hr; clear hr; try simp only [Act.put, List.setIfInBounds_toArray, List.set_cons_zero, List.set_cons_succ])
    | (refine wpL_call (by rfl) (fun K hK => ?_); have hcy := Ext.cell hy; have hfy := Ext.froz hy; go_simp; (first | (refine hK _ _ ?_ ?_; (focus ((repeat (first | (with_reducible exact But.refl _ _) | assumption | (with_reducible refine But.drew ?_) | (with_reducible refine But.drewL ?_) | (with_reducible refine But.setCell ?_ ?_ _; rotate_left; (focus (simp; done))) | (with_reducible refine But.setCellL ?_ ?_; rotate_left; (focus (simp; done))) | (with_reducible refine But.alloc2 ?_ ?_; rotate_left; (focus (simp [World.setCell]; done))) | (with_reducible refine But.allocL ?_ ?_ ?_; rotate_left; (focus (simp; done)); (focus (simp; done))) | (with_reducible refine But.alloc ?_ _))); done))) | (refine hK undef _ ?_ ?_; (focus ((repeat (first | (with_reducible exact But.refl _ _) | assumption | (with_reducible refine But.drew ?_) | (with_reducible refine But.drewL ?_) | (with_reducible refine But.setCell ?_ ?_ _; rotate_left; (focus (simp; done))) | (with_reducible refine But.setCellL ?_ ?_; rotate_left; (focus (simp; done))) | (with_reducible refine But.alloc2 ?_ ?_; rotate_left; (focus (simp [World.setCell]; done))) | (with_reducible refine But.allocL ?_ ?_ ?_; rotate_left; (focus (simp; done)); (focus (simp; done))) | (with_reducible refine But.alloc ?_ _))); done)))); clear hK; intro hr; replace hx := hx.trans hr; clear hr; try simp only [Act.put, List.setIfInBounds_toArray, List.set_cons_zero, List.set_cons_succ]))
  refine wpL_end ?_
  go_wp2
  obtain ⟨gW, rfl, hg1, hg2⟩ := own_form hA' h1
  obtain ⟨gF, rfl, hf1, hf2⟩ := own_form hB' h3
  refine bodyPost_ret (v := spV S (some ⟨gW, 0, none⟩) a' (some ⟨gF, 0, none⟩) b') (by simp [results, Try.results43, go_sem, hcy, spV]) rfl ⟨gW, a', gF, b', rfl, ⟨?_, ?_⟩, ?_⟩
  · exact own_base (own_below (own_below (own_below (own_ext hA' hE2) (by (first | omega | (simp; done) | (simp; omega))) _) (by (first | omega | (simp; done) | (simp; omega))) _) (by (first | omega | (simp; done) | (simp; omega))) _) (by (first | omega | (simp; done) | (simp; omega)))
  · exact own_base (own_below (own_below (own_below hB' (by (first | omega | (simp; done) | (simp; omega))) _) (by (first | omega | (simp; done) | (simp; omega))) _) (by (first | omega | (simp; done) | (simp; omega))) _) (by (first | omega | (simp; done) | (simp; omega)))
  · refine Ext.setCell (Ext.setCell (Ext.setCell ?_ (by simp) _) (by simp) _) (by simp) _
    (repeat (first | (with_reducible exact Ext.refl _) | assumption | (with_reducible refine Ext.alloc ?_ _) | (with_reducible refine Ext.drew ?_) | (with_reducible refine Ext.drewL ?_) | refine Ext.trans ?_ (by assumption)))

/-- the frames below k that are free -/
def frK (fs : List Fr) (k : Nat) : List Nat := (List.range k).filter fun i => (fs[i]?).any fun F => F.o == -1
theorem frK_yes {fs : List Fr} {k : Nat} {F : Fr} (h : fs[k]? = some F) (ho : F.o = -1) : frK fs (k + 1) = frK fs k ++ [k] := by
  simp only [frK, List.range_succ, List.filter_append]
  rw [List.filter_cons_of_pos (by rw [h]; simp [ho])]
  rfl
theorem frK_no {fs : List Fr} {k : Nat} {F : Fr} (h : fs[k]? = some F) (ho : F.o ≠ -1) : frK fs (k + 1) = frK fs k := by
  simp only [frK, List.range_succ, List.filter_append]
  rw [List.filter_cons_of_neg (by rw [h]; simp [ho])]
  simp
theorem frK_len (fs : List Fr) (k : Nat) : (frK fs k).length ≤ k := by
  have := List.length_filter_le (fun i => (fs[i]?).any fun F => F.o == -1) (List.range k)
  simpa [frK] using this
def natI (l : List Nat) : List Int := l.map (Int.ofNat ·)
theorem natI_len (l : List Nat) : (natI l).length = l.length := by simp [natI]
theorem natI_snoc (l : List Nat) (k : Nat) : ints (natI l) ++ [.int .i64 (k : Int)] = ints (natI (l ++ [k])) := by simp [ints, natI]
def RetInts (w : World) (l : List Nat) (r : Ending) (w' : World) : Prop :=
  ∃ A c, r = .returned (.slice A l.length c) ∧ w'.ownsRow w.heap.size 3 1 (.slice A l.length c) l.length (ints (natI l)) ∧ Ext w w'

theorem rd_one1 (w : World) (ob : Obj) (x : Value) (t : TypeId) : Rd ((w.alloc ob).alloc (.cells #[x] t)) (some ⟨w.heap.size + 1, 0, none⟩) 1 1 [x] := by
  have h := rd_one (w.alloc ob) x t
  simpa using h
set_option maxRecDepth 100000 in
set_option maxHeartbeats 1000000 in
theorem free_any (A B : Option Addr) (a b : Nat) (S : Sp) (w : World) (h : SRd w S A B) (h4 : S.fs.length ≤ 64) :
    Calls Try.prog 60 #[spV S A a B b] w (RetInts w (frK S.fs S.fs.length)) := by
  unfold spV
  have hF := h.F
  go_enter Try.func60, Try.ntmps60
  go_wp2
  go_loopw [3, 9] (fun s i wr => ∃ (k : Nat) (D : Option Addr) (d : Nat), k ≤ S.fs.length ∧ i = .int .i64 k ∧ s = .slice D (frK S.fs k).length d ∧ wr.ownsRow w.heap.size 3 1 (.slice D (frK S.fs k).length d) (frK S.fs k).length (ints (natI (frK S.fs k))) ∧ Ext w wr) (fun _ i _ => S.fs.length - (intOf i).toNat)
  case atStart => exact ⟨0, none, 0, by omega, rfl, rfl, own_nil _ _ _ _, by (repeat (first | (with_reducible exact Ext.refl _) | assumption | (with_reducible refine Ext.alloc ?_ _) | (with_reducible refine Ext.drew ?_) | (with_reducible refine Ext.drewL ?_) | refine Ext.trans ?_ (by assumption)))⟩
  case round =>
    obtain ⟨k, D, d, hk, rfl, rfl, hown, hE⟩ := hrel
    have hll := frK_len S.fs k
    have hsz := hE.size_le
    by_cases hlt : k < S.fs.length
    · have hdec : decide ((k : Int) < S.fs.length) = true := by simp; omega
      have hdec' : decide (k < S.fs.length) = true := by simp; omega
      obtain ⟨F, hF0⟩ : ∃ F, S.fs[k]? = some F := ⟨_, List.getElem?_eq_getElem hlt⟩
      obtain ⟨bF, oF, rfl, c0, c1, c2⟩ := fr_at (hF.ext hE) hF0
      have lF := cell_lt c0
      by_cases ho : F.o = -1
      · have Hs := Lib.hid (frK_yes hF0 ho)
        rw [ho] at c0
        clear ho hF0
        generalize hzl : frK S.fs k = zl at *
        have Hzl := Lib.hid hzl
        clear hzl
        go_wp2_with (first | (at_builtin; refine wpList_append rfl Try.elI _ _ rfl w.heap.size _ _ _ rfl (own_alloc (own_alloc hown _) _) _ 1 1 _ rfl (rd_one1 _ _ _ _) (by simp [Value.oneCell']) (by omega) (by omega) (by (first | omega | (simp; done) | (simp; omega))) ?_; intro A2 c2 w2 hown2 hg2 hat2))
        have hE2 : Ext w w2 := ext_grown (by (repeat (first | (with_reducible exact Ext.refl _) | assumption | (with_reducible refine Ext.alloc ?_ _) | (with_reducible refine Ext.drew ?_) | (with_reducible refine Ext.drewL ?_) | refine Ext.trans ?_ (by assumption)))) hg2 (own_alloc (own_alloc hown _) _) (Nat.le_refl _)
        have hl2 : (zl ++ [k]).length = zl.length + 1 := by simp
        rw [natI_snoc] at hown2
        have Hl2 := Lib.hid hl2
        clear hl2
        go_wp2
        go_roundw
        case rel => exact ⟨k + 1, A2, c2, by omega, by go_num, by rw [Hs.out, Hl2.out], by rw [Hs.out, Hl2.out]; exact hown2, hE2⟩
        case measure => simp [intOf]; omega
      · have Hs := Lib.hid (frK_no hF0 ho)
        have ho' : (F.o == -1) = false := by simpa using ho
        clear ho hF0
        go_wp2
        go_roundw
        case rel => exact ⟨k + 1, D, d, by omega, by go_num, by rw [Hs.out], by rw [Hs.out]; exact own_ext hown (by (repeat (first | (with_reducible exact Ext.refl _) | assumption | (with_reducible refine Ext.alloc ?_ _) | (with_reducible refine Ext.drew ?_) | (with_reducible refine Ext.drewL ?_) | refine Ext.trans ?_ (by assumption)))), by (repeat (first | (with_reducible exact Ext.refl _) | assumption | (with_reducible refine Ext.alloc ?_ _) | (with_reducible refine Ext.drew ?_) | (with_reducible refine Ext.drewL ?_) | refine Ext.trans ?_ (by assumption)))⟩
        case measure => simp [intOf]; omega
    · have hdec : decide ((k : Int) < S.fs.length) = false := by simp; omega
      have hdec' : decide (k < S.fs.length) = false := by simp; omega
      have hke : k = S.fs.length := by omega
      rw [hke] at hown ⊢
      go_wp2
      go_ret
      exact ⟨D, d, rfl, hown, hE⟩

set_option maxRecDepth 100000 in
set_option maxHeartbeats 1000000 in
theorem owns_any (A B : Option Addr) (a b : Nat) (S : Sp) (q : Int) (w : World) (h : SRd w S A B) (h4 : S.fs.length ≤ 64) (hq : ∀ F ∈ S.fs, F.o ≠ q) :
    Calls Try.prog 42 #[spV S A a B b, .int .i64 q] w fun r w' => r = .returned (.bool false) ∧ Ext w w' := by
  unfold spV
  have hF := h.F
  have Hq := Lib.hid hq
  clear hq
  go_enter Try.func42, Try.ntmps42
  go_wp2
  go_loopw [10] (fun i wr => ∃ k : Nat, k ≤ S.fs.length ∧ i = .int .i64 k ∧ Ext w wr) (fun i _ => S.fs.length - (intOf i).toNat)
  case atStart => exact ⟨0, by omega, rfl, by (repeat (first | (with_reducible exact Ext.refl _) | assumption | (with_reducible refine Ext.alloc ?_ _) | (with_reducible refine Ext.drew ?_) | (with_reducible refine Ext.drewL ?_) | refine Ext.trans ?_ (by assumption)))⟩
  case round =>
    obtain ⟨k, hk, rfl, hE⟩ := hrel
    by_cases hlt : k < S.fs.length
    · have hdec : decide ((k : Int) < S.fs.length) = true := by simp; omega
      have hdec' : decide (k < S.fs.length) = true := by simp; omega
      obtain ⟨F, hF0⟩ : ∃ F, S.fs[k]? = some F := ⟨_, List.getElem?_eq_getElem hlt⟩
      obtain ⟨bF, oF, rfl, c0, c1, c2⟩ := fr_at (hF.ext hE) hF0
      have lF := cell_lt c0
      have ho := Hq.out F (List.mem_of_getElem? hF0)
      have ho' : (F.o == q) = false := by simpa using ho
      clear ho hF0
      go_wp2
      go_roundw
      case rel => exact ⟨k + 1, by omega, by go_num, by (repeat (first | (with_reducible exact Ext.refl _) | assumption | (with_reducible refine Ext.alloc ?_ _) | (with_reducible refine Ext.drew ?_) | (with_reducible refine Ext.drewL ?_) | refine Ext.trans ?_ (by assumption)))⟩
      case measure => simp [intOf]; omega
    · have hdec : decide ((k : Int) < S.fs.length) = false := by simp; omega
      have hdec' : decide (k < S.fs.length) = false := by simp; omega
      go_wp2
      go_ret
      exact ⟨rfl, hE⟩

def Sp.setF (S : Sp) (i : Nat) (F : Fr) : Sp := { S with fs := S.fs.set i F }
def RetLift (w : World) (S : Sp) (i : Nat) (F : Fr) (base gW cW gF cF : Nat) (r : Ending) (w' : World) : Prop := r = .returned (.int .i64 i) ∧ SOw w' base (S.setF i F) gW cW gF cF ∧ But [gF] w w'
set_option maxRecDepth 100000 in
set_option maxHeartbeats 1000000 in
theorem lift_any (gW cW gF cF base : Nat) (S : Sp) (q b : Int) (i : Nat) (w : World) (h : SOw w base S gW cW gF cF) (h4 : S.fs.length ≤ 64) (hi : ∃ F, S.fs[i]? = some F ∧ F.o = -1) (hj : ∀ j F, j < i → S.fs[j]? = some F → F.o ≠ -1)
    (h1 : 0 ≤ q) (h2 : q ≤ 4294967295) (h3 : 0 ≤ b) (h5 : b < 4) :
    Calls Try.prog 61 #[spV S (some ⟨gW, 0, none⟩) cW (some ⟨gF, 0, none⟩) cF, .int .i64 q, .int .i64 b] w (RetLift w S i ⟨q, b * 4294967296 + q, -1⟩ base gW cW gF cF) := by
  unfold spV
  have hil : i < S.fs.length := by obtain ⟨F, h1, _⟩ := hi; exact (List.getElem?_eq_some_iff.1 h1).1
  have hbl := h.lt
  have Hi := Lib.hid hi
  have Hj := Lib.hid hj
  clear hi hj
  go_enter Try.func61, Try.ntmps61
  go_wp2
  have k0 : Blk (w.alloc (.cells #[.int .i64 S.sh, .slice (some ⟨gW, 0, none⟩) S.ws.length cW, .slice (some ⟨gF, 0, none⟩) S.fs.length cF] 35)) w.heap.size 35 #[.int .i64 S.sh, .slice (some ⟨gW, 0, none⟩) S.ws.length cW, .slice (some ⟨gF, 0, none⟩) S.fs.length cF] := Blk.new rfl
  have hE0 : Ext w (w.alloc (.cells #[.int .i64 S.sh, .slice (some ⟨gW, 0, none⟩) S.ws.length cW, .slice (some ⟨gF, 0, none⟩) S.fs.length cF] 35)) := by (repeat (first | (with_reducible exact Ext.refl _) | assumption | (with_reducible refine Ext.alloc ?_ _) | (with_reducible refine Ext.drew ?_) | (with_reducible refine Ext.drewL ?_) | refine Ext.trans ?_ (by assumption)))
  generalize w.alloc (.cells #[.int .i64 S.sh, .slice (some ⟨gW, 0, none⟩) S.ws.length cW, .slice (some ⟨gF, 0, none⟩) S.fs.length cF] 35) = W at k0 hE0 ⊢
  go_loopw [12] (fun s wr => ∃ k : Nat, k ≤ i ∧ s = .int .i64 k ∧ Ext W wr) (fun s _ => i + 1 - (intOf s).toNat)
  case atStart => exact ⟨0, by omega, rfl, by (repeat (first | (with_reducible exact Ext.refl _) | assumption | (with_reducible refine Ext.alloc ?_ _) | (with_reducible refine Ext.drew ?_) | (with_reducible refine Ext.drewL ?_) | refine Ext.trans ?_ (by assumption)))⟩
  case round =>
    obtain ⟨k, hk, rfl, hE⟩ := hrel
    have hEw := hE0.trans hE
    have k0' := k0.ext hE
    have cB := k0'.cell
    have lB := k0'.lt
    have hown := h.ext hEw
    have hlt : k < S.fs.length := by omega
    have hdec : decide ((k : Int) < S.fs.length) = true := by simp; omega
    have hdec' : decide (k < S.fs.length) = true := by simp; omega
    have hkI : (k : Int) < S.fs.length := by omega
    obtain ⟨F, hF0⟩ : ∃ F, S.fs[k]? = some F := ⟨_, List.getElem?_eq_getElem hlt⟩
    obtain ⟨bF, oF, he, c0, c1, c2⟩ := fr_at hown.rd.F hF0
    simp only [Option.some.injEq, Addr.mk.injEq, and_true] at he
    obtain ⟨rfl, rfl⟩ := he
    simp only [Nat.zero_add] at c0 c1 c2
    have fF := (own_cells hown.F).2
    have lF := cell_lt c0
    by_cases hki : k = i
    · subst hki
      have ho : F.o = -1 := by obtain ⟨G, h1, h2⟩ := Hi.out; rw [hF0] at h1; injection h1 with h1; rw [h1]; exact h2
      rw [ho] at c0
      clear ho hF0
      go_wp2
      go_ret
      have q1 := own_set (own_set (own_set hown.F (k * 3) (.int .i64 q)) (k * 3 + 1) (.int .i64 (b * 4294967296 + q))) (k * 3 + 2) (.int .i64 (-1))
      rw [← frs_set S.fs k ⟨q, b * 4294967296 + q, -1⟩] at q1
      have q2 := own_other (own_other (own_other hown.W (p := ⟨gF, k * 3, none⟩) hown.ne (.int .i64 q)) (p := ⟨gF, k * 3 + 1, none⟩) hown.ne (.int .i64 (b * 4294967296 + q))) (p := ⟨gF, k * 3 + 2, none⟩) hown.ne (.int .i64 (-1))
      refine ⟨rfl, ⟨own_alloc q2 _, ?_⟩, But.alloc (But.setCell (But.setCell (But.setCell (hEw.but _) (by simp) _) (by simp) _) (by simp) _) _⟩
      have q3 := own_alloc q1 (Obj.cells #[.int .i64 (-1), .int .i64 F.s, .int .i64 F.n] 43)
      simpa only [Sp.setF, List.length_set] using q3
    · have ho' : (F.o == -1) = false := by simpa using Hj.out k F (by omega) hF0
      clear hF0
      go_wp2
      go_roundw
      case rel => exact ⟨k + 1, by omega, by go_num, by (repeat (first | (with_reducible exact Ext.refl _) | assumption | (with_reducible refine Ext.alloc ?_ _) | (with_reducible refine Ext.drew ?_) | (with_reducible refine Ext.drewL ?_) | refine Ext.trans ?_ (by assumption)))⟩
      case measure => simp [intOf]; omega
end Go.Proofs.Ytljkadpconghnaa
