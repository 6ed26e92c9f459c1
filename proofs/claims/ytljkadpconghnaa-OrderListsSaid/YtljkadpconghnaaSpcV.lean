/- The walk of order.Prefix. Conditions: the ranges that each theorem states. -/
import Derived.Test.YtljkadpconghnaaSpcU
namespace Go.Proofs.Ytljkadpconghnaa
open Go.RowKit Go.Draw

/-- what order.Prefix answers -/
def prefB (F : List Inc) (zs : List Int) : Bool := decide (zs.length ≤ F.length) && (decide (srt ((F.take zs.length).map (·.q)) = srt zs) && decide ((Lib.compact (srt zs)).length = zs.length))
theorem eg1 : ∀ args w, (callFunc 29 args).run Try.prog w = .ok (.enter 29 args) w := enters_of Try.func29 (by kernel_rfl) rfl
theorem eg2 : ∀ args w, (callFunc 31 args).run Try.prog w = .ok (.enter 31 args) w := enters_of Try.func31 (by kernel_rfl) rfl
theorem all_to (A : Option Addr) (c : Nat) (Q : List (List Inc)) (F : List Inc) (w : World) (h : BRd w A Q) (hn : Q.length ≤ 1000) (hF : Q.flatten = F) (hf : F.length ≤ 100000) :
    Calls Try.prog 16 #[.slice A Q.length c] w (RetIncs w F) := by
  subst hF
  exact all_any A c Q w h hn hf
theorem own_cap {w : World} {base n c size : Nat} {A : Option Addr} {e : TypeId} {xs : List Value} (h : w.ownsRow base e size (.slice A n c) n xs) : n ≤ c := by
  rcases h.2 with ⟨h0, hz⟩ | ⟨k, cap, cur, hv, _, _, hnc, _⟩
  · omega
  · simp only [Value.slice.injEq] at hv
    omega
theorem equal_to (A B : Option Addr) (n c d : Nat) (xs ys : List Int) (b : Bool) (w : World) (hA : Rd w A n 1 (ints xs)) (hB : Rd w B n 1 (ints ys)) (hl : n ≤ 1000) (hb : decide (xs = ys) = b) :
    Calls Try.prog 32 #[.slice A n c, .slice B n d] w fun e w' => e = .returned (.bool b) ∧ Ext w w' := by
  subst hb
  exact equal_row A B n c d xs ys w hA hB hl
theorem compact_to (A : Option Addr) (n c base m : Nat) (zs : List Int) (w : World) (h : w.ownsRow base 3 1 (.slice A n c) n (ints zs)) (hl : n ≤ 1000) (hm : (Lib.compact zs).length = m) :
    Calls Try.prog 33 #[.slice A n c] w fun e w' => ∃ A' c', e = .returned (.slice A' m c') ∧ But (Value.slice A n c).ownBlock.toList w w' := by
  subst hm
  exact compact_row A n c base zs w h hl
set_option maxRecDepth 100000 in
set_option maxHeartbeats 4000000 in
theorem prefix_any (A D : Option Addr) (a c : Nat) (Q : List (List Inc)) (F : List Inc) (zs : List Int) (w : World) (h : BRd w A Q) (hn : Q.length ≤ 1000) (hF : Q.flatten = F) (hf : F.length ≤ 1000) (hz : Rd w D zs.length 1 (ints zs)) (hzl : zs.length ≤ 1000) :
    Calls Try.prog 17 #[.slice A Q.length a, .slice D zs.length c] w fun r w' => r = .returned (.bool (prefB F zs)) ∧ Ext w w' := by
  have HF := Lib.hid hF
  clear hF
  go_enter Try.func17, Try.ntmps17
  by_cases hle : zs.length ≤ F.length
  · have d1 : decide ((F.length : Int) < zs.length) = false := by (first | omega | (simp; done) | (simp; omega))
    have d1' : decide (F.length < zs.length) = false := by (first | omega | (simp; done) | (simp; omega))
    have hleI : (zs.length : Int) ≤ F.length := by omega
    obtain ⟨n, hzn⟩ : ∃ n, zs.length = n := ⟨_, rfl⟩
    have Hzn := Lib.hid hzn
    rw [hzn] at hz hzl hle d1 d1' hleI ⊢
    clear hzn
    go_wp2_with (first | (go_at_call 16; refine (all_to A a Q F _ h hn HF.out (by omega)).mono ?_; rintro e w1 ⟨B, b, rfl, hB, hE1⟩; have hcap := own_cap hB; have hcapI : (n : Int) ≤ b := by omega))
    have hR := Rd.of_own hB
    go_loopw [6, 22] (fun s i wr => ∃ (k : Nat) (D2 : Option Addr) (d2 : Nat), k ≤ n ∧ i = .int .i64 k ∧ s = .slice D2 k d2 ∧ wr.ownsRow w1.heap.size 3 1 (.slice D2 k d2) k (ints ((F.take k).map (·.q))) ∧ Ext w1 wr) (fun _ i _ => n - (intOf i).toNat)
    case atStart => exact ⟨0, none, 0, by omega, rfl, rfl, own_nil _ _ _ _, by (repeat (first | (with_reducible exact Ext.refl _) | assumption | (with_reducible refine Ext.alloc ?_ _) | (with_reducible refine Ext.drew ?_) | (with_reducible refine Ext.drewL ?_) | refine Ext.trans ?_ (by assumption)))⟩
    case round =>
      obtain ⟨k, D2, d2, hk, rfl, rfl, hown, hE⟩ := hrel
      have hsz := hE.size_le
      by_cases hlt : k < n
      · have hdec : decide ((k : Int) < n) = true := by simp; omega
        have hdec' : decide (k < n) = true := by simp; omega
        have hkI : (k : Int) < n := by omega
        obtain ⟨i, hi⟩ : ∃ i, F[k]? = some i := ⟨_, List.getElem?_eq_getElem (by omega)⟩
        obtain ⟨b1, o1, rfl, c0, c1, c2, c3, c4⟩ := inc_at (hR.ext hE) hi
        have l1 := cell_lt c0
        have hts : (F.take (k + 1)).map (·.q) = (F.take k).map (·.q) ++ [i.q] := by rw [List.take_add_one, hi]; simp
        have Hts := Lib.hid hts
        clear hts hi
        go_wp2_with (first | (at_builtin; refine wpList_append rfl Try.elI _ _ rfl w1.heap.size _ _ _ rfl (own_alloc (own_alloc hown _) _) _ 1 1 _ rfl (rd_one1 _ _ _ _) (by simp [Value.oneCell']) (by omega) (by omega) (by (first | omega | (simp; done) | (simp; omega))) ?_; intro A2 a2 w2 hown2 hg2 hat2))
        have hE2 : Ext w1 w2 := ext_grown (by (repeat (first | (with_reducible exact Ext.refl _) | assumption | (with_reducible refine Ext.alloc ?_ _) | (with_reducible refine Ext.drew ?_) | (with_reducible refine Ext.drewL ?_) | refine Ext.trans ?_ (by assumption)))) hg2 (own_alloc (own_alloc hown _) _) (Nat.le_refl _)
        go_wp2
        go_roundw
        case rel => exact ⟨k + 1, A2, a2, by omega, by go_num, rfl, by rw [Hts.out]; simpa [ints] using hown2, hE2⟩
        case measure => simp [intOf]; omega
      · have hdec : decide ((k : Int) < n) = false := by simp; omega
        have hdec' : decide (k < n) = false := by simp; omega
        have hkn : k = n := by omega
        subst hkn
        have hE0 := hE1.trans hE
        have hlf := World.ownsRow.lt hown
        have hw1 := hE1.size_le
        clear hR hE hB hcap hcapI
        go_wp2_with fail
        go_at_call 27
        refine (clone_row D k c zs _ (hz.ext hE0) hzl).mono ?_
        rintro e w3 ⟨A3, c3, rfl, hG, hE3⟩
        have hEc := hE0.trans hE3
        have hF3 := own_ext hown hE3
        have hlg := World.ownsRow.lt hG
        go_wp2_with fail
        go_at_call 28
        refine (sort_row 29 cl1_any eg1 D2 k d2 _ _ _ hF3 hzl).mono ?_
        rintro e w4 ⟨rfl, hF4, hB4⟩
        have hG4 := own_over hG hB4 (fun x hx => (hlf x (Option.mem_toList.1 hx)).2)
        have hE4 := But.ext hEc hB4 (fun x hx => by have := (hlf x (Option.mem_toList.1 hx)).1; omega)
        go_wp2_with fail
        go_at_call 28
        refine (sort_row 31 cl2_any eg2 A3 k c3 _ _ _ hG4 hzl).mono ?_
        rintro e w5 ⟨rfl, hG5, hB5⟩
        have hF5 := own_but hF4 hB5 (fun g hg hm => by have h1 := (hlf g hg).2; have h2 := (hlg g (Option.mem_toList.1 hm)).1; omega)
        have hE5 := But.ext hE4 hB5 (fun x hx => by have h1 := (hlg x (Option.mem_toList.1 hx)).1; have h2 := hE0.size_le; omega)
        obtain ⟨bq, hbq⟩ : ∃ bq, decide (srt ((F.take k).map (·.q)) = srt zs) = bq := ⟨_, rfl⟩
        have Hbq := Lib.hid hbq
        clear hbq
        obtain ⟨m, hm⟩ : ∃ m, (Lib.compact (srt zs)).length = m := ⟨_, rfl⟩
        have Hm := Lib.hid hm
        clear hm
        have Hle := Lib.hid (show decide (zs.length ≤ F.length) = true by rw [Hzn.out]; simpa using hle)
        cases bq with
        | false =>
          have Hp := Lib.hid (show prefB F zs = false by unfold prefB; rw [Hle.out, Hzn.out, Hbq.out]; rfl)
          go_wp2_with (go_at_call 32; refine (equal_to D2 A3 k d2 c3 _ _ false _ (Rd.of_own hF5) (Rd.of_own hG5) hzl Hbq.out).mono ?_; rintro e w6 ⟨rfl, hE6⟩)
          go_ret
          exact ⟨ret_bool Hp.out.symm, hE5.trans hE6⟩
        | true =>
          by_cases hmk : m = k
          · have d3 : ((m : Int) == (k : Int)) = true := by simp; omega
            have Hp := Lib.hid (show prefB F zs = true by unfold prefB; rw [Hle.out, Hm.out, Hzn.out, Hbq.out]; simpa using hmk)
            clear hmk
            go_wp2_with (first | (go_at_call 32; refine (equal_to D2 A3 k d2 c3 _ _ true _ (Rd.of_own hF5) (Rd.of_own hG5) hzl Hbq.out).mono ?_; rintro e w6 ⟨rfl, hE6⟩) | (go_at_call 33; refine (compact_to A3 k c3 _ m _ _ (own_ext hG5 hE6) hzl Hm.out).mono ?_; rintro e w7 ⟨A7, c7, rfl, hB7⟩))
            go_ret
            exact ⟨ret_bool Hp.out.symm, But.ext (hE5.trans hE6) hB7 (fun x hx => by have h1 := (hlg x (Option.mem_toList.1 hx)).1; have h2 := hE0.size_le; omega)⟩
          · have d3 : ((m : Int) == (k : Int)) = false := by simp; omega
            have Hp := Lib.hid (show prefB F zs = false by unfold prefB; rw [Hle.out, Hm.out, Hzn.out, Hbq.out]; simpa using hmk)
            clear hmk
            go_wp2_with (first | (go_at_call 32; refine (equal_to D2 A3 k d2 c3 _ _ true _ (Rd.of_own hF5) (Rd.of_own hG5) hzl Hbq.out).mono ?_; rintro e w6 ⟨rfl, hE6⟩) | (go_at_call 33; refine (compact_to A3 k c3 _ m _ _ (own_ext hG5 hE6) hzl Hm.out).mono ?_; rintro e w7 ⟨A7, c7, rfl, hB7⟩))
            go_ret
            exact ⟨ret_bool Hp.out.symm, But.ext (hE5.trans hE6) hB7 (fun x hx => by have h1 := (hlg x (Option.mem_toList.1 hx)).1; have h2 := hE0.size_le; omega)⟩
  · have d1 : decide ((F.length : Int) < zs.length) = true := by (first | omega | (simp; done) | (simp; omega))
    have d1' : decide (F.length < zs.length) = true := by (first | omega | (simp; done) | (simp; omega))
    have Hp := Lib.hid (show prefB F zs = false by unfold prefB; rw [show decide (zs.length ≤ F.length) = false by simpa using hle]; rfl)
    go_wp2_with (first | (go_at_call 16; refine (all_to A a Q F _ h hn HF.out (by omega)).mono ?_; rintro e w1 ⟨B, b, rfl, hB, hE1⟩))
    go_ret
    exact ⟨ret_bool Hp.out.symm, hE1⟩
end Go.Proofs.Ytljkadpconghnaa
