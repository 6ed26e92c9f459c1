/- The walks of arena.Copy, Fill and of their references. Conditions: the ranges that each theorem states. -/
import Derived.Test.YtodoeckikkeacaaB
import Derived.Deep.DeepCutAuto
namespace Go.Proofs.Ytodoeckikkeacaa
open Go.RowKit Go.Draw

/-- cs laid over xs from place o on -/
def sets {α : Type} (xs : List α) (o : Nat) : List α → List α
  | [] => xs
  | v :: r => sets (xs.set o v) (o + 1) r
theorem sets_length {α : Type} : ∀ (cs xs : List α) (o : Nat), (sets xs o cs).length = xs.length
  | [], _, _ => rfl
  | v :: r, xs, o => by rw [sets, sets_length r]; simp
theorem sets_snoc {α : Type} (v : α) : ∀ (cs xs : List α) (o : Nat), sets xs o (cs ++ [v]) = (sets xs o cs).set (o + cs.length) v
  | [], xs, o => by simp [sets]
  | u :: r, xs, o => by
    rw [List.cons_append, sets, sets, sets_snoc v r]
    congr 1
    simp; omega
theorem sets_at {α : Type} : ∀ (cs xs : List α) (o j : Nat), o + cs.length ≤ xs.length → (sets xs o cs)[j]? = if o ≤ j ∧ j < o + cs.length then cs[j - o]? else xs[j]?
  | [], xs, o, j, _ => by
    rw [if_neg (by simp only [List.length_nil]; omega)]; simp only [sets]
  | v :: r, xs, o, j, h => by
    simp only [List.length_cons] at h
    rw [sets, sets_at r (xs.set o v) (o + 1) j (by simp; omega)]
    by_cases h1 : o + 1 ≤ j ∧ j < o + 1 + r.length
    · rw [if_pos h1, if_pos (by simp; omega)]
      obtain ⟨i, rfl⟩ : ∃ i, j = o + 1 + i := ⟨j - (o + 1), by omega⟩
      simp [show o + 1 + i - o = i + 1 by omega]
    · rw [if_neg h1]
      by_cases h2 : j = o
      · subst h2
        rw [if_pos (by simp)]
        simp [show j < xs.length by omega]
      · rw [if_neg (by simp; omega), List.getElem?_set_ne (by omega)]
theorem words_sets : ∀ (cs rs : List Int) (o : Nat), words (sets rs o cs) = sets (words rs) o (words cs)
  | [], _, _ => rfl
  | v :: r, rs, o => by
    rw [sets, words_sets r, ← words_set]; rfl

theorem own_setCells {base : Nat} {e : TypeId} {g c n size : Nat} : ∀ (cs : List Value) (o : Nat) (w : World) (xs : List Value), w.ownsRow base e size (.slice (some ⟨g, 0, none⟩) n c) n xs → (w.setCells g o cs).ownsRow base e size (.slice (some ⟨g, 0, none⟩) n c) n (sets xs o cs)
  | [], _, _, _, h => h
  | v :: r, o, w, xs, h => own_setCells r (o + 1) _ _ (own_set h o v)
theorem below_setCells {g base : Nat} (hg : base ≤ g) : ∀ (cs : List Value) (o : Nat) (a w : World), RowKit.Below base a w → RowKit.Below base a (w.setCells g o cs)
  | [], _, _, _, h => h
  | v :: r, o, a, w, h => below_setCells hg r (o + 1) a _ (RowKit.Below.setCell h hg v)
theorem _root_.Go.Draw.Blk.below {w w' : World} {b B : Nat} {t : TypeId} {cs : Array Value} (h : Blk w b t cs) (he : RowKit.Below B w w') (hb : b < B) : Blk w' b t cs := (he.block b hb).trans h
theorem ext_below {a w w' : World} {B : Nat} (h : Ext a w) (he : RowKit.Below B w w') (hB : a.heap.size ≤ B) : Ext a w' := RowKit.Below.trans h (he.mono hB)
theorem own_cap {w : World} {base : Nat} {e : TypeId} {A : Option Addr} {n c size : Nat} {xs : List Value} (h : w.ownsRow base e size (.slice A n c) n xs) : n ≤ c := by
  rcases h.2 with ⟨h0, h1⟩ | ⟨g, cap, cur, hv, _, _, hnc, _⟩
  · omega
  · simp only [Value.slice.injEq] at hv
    omega

theorem _root_.Go.Draw.wpList_copy {P : Program} {w : World} {ops : Array Oper} {rest : List Oper} {o : Oper} {a : Act} {Q : Exit → Act → World → Prop} {t e : TypeId} {z : Value} {bytes : Nat} (hgd : o.guard = none) (E : Elem P t e z 1 bytes) (s x : Operand)
    (ho : o.op = .call { callee := .builtin .copy, args := #[s, x], argTypes := #[t, t] })
    (B : Option Addr) (len cap : Nat) (hs : a.eval s = .slice B len cap)
    (A : Option Addr) (m c' : Nat) (news : List Value) (hx : a.eval x = .slice A m c') (hr : Rd w A m 1 news) (h1 : ∀ u ∈ news, u.oneCell' = true) (hm : m = len)
    (base off n c : Nat) (B0 : Option Addr) (xs : List Value) (hown : w.ownsRow base e 1 (.slice B0 n c) n xs) (hoff : off + len ≤ n) (hB : len = 0 ∨ B = B0.map (·.add off))
    (h : ∀ w', w'.ownsRow base e 1 (.slice B0 n c) n (sets xs off news) → RowKit.Below base w w' → wpList P ops Q rest (a.put o.dst (goInt m)) w') : wpList P ops Q (o :: rest) a w := by
  subst hm
  have hl : news.length = m := by have := hr.1; simpa using this
  have hxl : xs.length = n := by have := hown.1; simpa using this
  obtain ⟨i, hi, hz, hsize, _⟩ := info_parts E.ex
  have hsz : (P.info? e).map (·.size) = some 1 := by rw [hi]; simp [hsize]
  refine wpList_plain hgd fun K hK => ?_
  unfold Oper.wp
  by_cases h0 : m = 0
  · subst h0
    obtain rfl : news = [] := List.eq_nil_of_length_eq_zero hl
    have hrun := run_copy_none (P := P) w t t o.type e B A 0 cap 0 c' E.ht hsz (by simp)
    simp [execOp, ho, resolve, invoke, builtin, hs, hx, hrun, Result.andThen]
    exact hK _ _ (h w hown (RowKit.Below.refl _ _))
  · obtain ⟨b', o', rfl, hc⟩ := hr.2 (by omega)
    rcases hB with hB | rfl
    · omega
    obtain ⟨g, rfl, hgb, _⟩ := own_form hown (by omega)
    simp only [Option.map_some, addr_add, Nat.zero_add] at hs
    obtain ⟨hcg, hfg⟩ := own_cells hown
    have hrun := run_copy_cells (P := P) w t t o.type e g off m cap ⟨b', o', none⟩ m c' news E.ht hsz (by simp [hl]) (fun j v hv => by rw [addr_add]; exact hc j v hv)
      (fun j hj => by rw [hcg (off + j) _ (List.getElem?_eq_getElem (by omega))]; rfl) (fun j _ => hfg _) h1
    simp [execOp, ho, resolve, invoke, builtin, hs, hx, hrun, Result.andThen, hl]
    exact hK _ _ (h _ (own_setCells _ _ _ _ hown) (below_setCells hgb _ _ _ _ (RowKit.Below.refl _ _)))

/-- n words from one place to another, or an error -/
def copyA (rs : List Int) (a b k : Int) : List Int × Int :=
  if k < 0 then ([], 1) else if (0 ≤ a ∧ a ≤ rs.length ∧ k ≤ rs.length - a) ∧ (0 ≤ b ∧ b ≤ rs.length ∧ k ≤ rs.length - b) then (sets rs b.toNat ((rs.drop a.toNat).take k.toNat), 0) else ([], 2)

set_option maxHeartbeats 1000000 in
theorem copy_any (A : Option Addr) (n c : Nat) (rs : List Int) (a b k : Int) (w : World) (hr : Rd w A n 1 (words rs)) (hn : n ≤ 1000000) (hcp : n ≤ c) :
    Calls Try.prog 9 #[.slice A n c, .int .i64 a, .int .i64 b, .int .i64 k] w fun r w' => RetW w (copyA rs a b k).1 (copyA rs a b k).2 r w' := by
  have hl : rs.length = n := by have := hr.1; simpa [words] using this
  by_cases h0 : k < 0
  · have h1 : decide (k < 0) = true := by simpa using h0
    rw [show copyA rs a b k = ([], 1) by unfold copyA; rw [if_pos h0]]
    clear h0 hl hr
    go_enter_defers Try.func9, Try.ntmps9
    go_wp2
    refine ⟨.tuple #[.slice none 0 0, .int .i64 1], by simp [results, Try.results9, go_sem], RetW.none_ rfl (Ext.alloc (Ext.refl _) _)⟩
  · have h1 : decide (k < 0) = false := by simpa using h0
    by_cases hia : 0 ≤ a ∧ a ≤ n ∧ k ≤ n - a
    · by_cases hib : 0 ≤ b ∧ b ≤ n ∧ k ≤ n - b
      · rw [show copyA rs a b k = (sets rs b.toNat ((rs.drop a.toNat).take k.toNat), 0) by unfold copyA; rw [if_neg h0, if_pos (by rw [hl]; exact ⟨hia, hib⟩)]]
        obtain ⟨k, rfl⟩ : ∃ j : Nat, k = (j : Int) := ⟨k.toNat, by omega⟩
        obtain ⟨a, rfl⟩ : ∃ j : Nat, a = (j : Int) := ⟨a.toNat, by omega⟩
        obtain ⟨b, rfl⟩ : ∃ j : Nat, b = (j : Int) := ⟨b.toNat, by omega⟩
        simp only [Int.toNat_natCast]
        have hak : a + k ≤ n := by omega
        have hbk : b + k ≤ n := by omega
        have hbi : (b : Int) + k ≤ n := by omega
        have Hl := Lib.hid hl
        clear h0 hia hib hl
        go_enter_defers Try.func9, Try.ntmps9
        go_wp2_with fail
        go_at_call 22
        refine (span_in A n c a k (words rs) _ (hr.ext (by (repeat (first | (with_reducible exact Ext.refl _) | assumption | (with_reducible refine Ext.alloc ?_ _) | (with_reducible refine Ext.drew ?_) | (with_reducible refine Ext.drewL ?_) | refine Ext.trans ?_ (by assumption))))) hak hn hcp).mono ?_
        rintro e w1 ⟨⟨A1, rfl, hr1⟩, rfl⟩
        go_upto_region 7 with (first | (go_at_call 22; refine (span_in A n c b k (words rs) _ (hr.ext (by (repeat (first | (with_reducible exact Ext.refl _) | assumption | (with_reducible refine Ext.alloc ?_ _) | (with_reducible refine Ext.drew ?_) | (with_reducible refine Ext.drewL ?_) | refine Ext.trans ?_ (by assumption))))) hbk hn hcp).mono ?_; rintro e w1 ⟨⟨A2, rfl, _⟩, rfl⟩) | (go_at_call 23; refine (words_any A n c rs _ (hr.ext (by (repeat (first | (with_reducible exact Ext.refl _) | assumption | (with_reducible refine Ext.alloc ?_ _) | (with_reducible refine Ext.drew ?_) | (with_reducible refine Ext.drewL ?_) | refine Ext.trans ?_ (by assumption))))) hn).mono ?_; rintro e w1 ⟨B, d, rfl, hB, hE⟩; have k5 := blk_of_ext hE; have hd := own_cap hB; have hr1 := hr1.ext hE; have hzW := hE.size_le))
        have hbd : b + k ≤ d := by omega
        have done : ∀ (cs : List Int) (wx wz : World), wz.ownsRow (w.alloc (.cells #[.int .i64 0] 28)).heap.size 23 1 (.slice B n d) n (sets (words rs) b (words cs)) → RowKit.Below (w.alloc (.cells #[.int .i64 0] 28)).heap.size wx wz → Ext (w.alloc (.cells #[.int .i64 0] 28)) wx →
            RetW w (sets rs b cs) 0 (.returned (.tuple #[.slice B n d, .int .i64 0])) (wz.setCell ⟨w.heap.size, 0, none⟩ (.int .i64 0)) := by
          intro cs wx wz h1 h2 h3
          have e1 : (sets rs b cs).length = n := by rw [sets_length, Hl.out]
          refine ⟨B, d, by rw [e1], ?_, ?_⟩
          · rw [e1, words_sets]
            exact own_base (own_below h1 (by simp) _) (by simp)
          · exact Ext.setCell (ext_below (Ext.trans (Ext.alloc (Ext.refl _) _) h3) h2 (by simp)) (Nat.le_refl _) _
        have Hdone := Lib.hid done
        clear done
        by_cases hdb : d = b
        · have hk0 : k = 0 := by omega
          go_wp2_with (first | (refine wpList_copy rfl Try.el22 _ _ rfl _ _ _ rfl _ _ _ (words ((rs.drop a).take k)) rfl (by simp only [words, List.map_take, List.map_drop]; exact hr1) (one_words _) (by omega) _ b n d B (words rs) hB (by omega) (by first | (left; omega) | (right; rfl)) ?_; intro w2 hO hBt; have k5 := k5.below hBt (by simp); have c5 := k5.cell; have f5 := k5.froz; have b5 := k5.lt))
          refine leave_ok (.tuple #[.slice B n d, .int .i64 0]) (by simp [results, Try.results9, go_sem, *]) ?_
          exact Hdone.out _ _ _ hO hBt hE
        · go_wp2_with (first | (refine wpList_copy rfl Try.el22 _ _ rfl _ _ _ rfl _ _ _ (words ((rs.drop a).take k)) rfl (by simp only [words, List.map_take, List.map_drop]; exact hr1) (one_words _) (by omega) _ b n d B (words rs) hB (by omega) (by first | (left; omega) | (right; rfl)) ?_; intro w2 hO hBt; have k5 := k5.below hBt (by simp); have c5 := k5.cell; have f5 := k5.froz; have b5 := k5.lt))
          refine leave_ok (.tuple #[.slice B n d, .int .i64 0]) (by simp [results, Try.results9, go_sem, *]) ?_
          exact Hdone.out _ _ _ hO hBt hE
      · rw [show copyA rs a b k = ([], 2) by unfold copyA; rw [if_neg h0, if_neg (by rw [hl]; exact fun h => hib h.2)]]
        obtain ⟨k, rfl⟩ : ∃ j : Nat, k = (j : Int) := ⟨k.toNat, by omega⟩
        obtain ⟨a, rfl⟩ : ∃ j : Nat, a = (j : Int) := ⟨a.toNat, by omega⟩
        have hak : a + k ≤ n := by omega
        clear h0 hia hl
        go_enter_defers Try.func9, Try.ntmps9
        go_wp2_with fail
        go_at_call 22
        refine (span_in A n c a k (words rs) _ (hr.ext (by (repeat (first | (with_reducible exact Ext.refl _) | assumption | (with_reducible refine Ext.alloc ?_ _) | (with_reducible refine Ext.drew ?_) | (with_reducible refine Ext.drewL ?_) | refine Ext.trans ?_ (by assumption))))) hak hn hcp).mono ?_
        rintro e w1 ⟨⟨A1, rfl, hr1⟩, rfl⟩
        go_wp2_with (first | (go_at_call 22; refine (span_out A n c b k _ (by omega) hn).mono ?_; rintro e w1 ⟨ho, rfl⟩; obtain rfl := ho))
        exact leave_out (x := 0) (by simp) (by simp) (.tuple #[.slice none 0 0, .int .i64 2]) (fun o => by simp [results, Try.results9, go_sem]) (fun o => RetW.none_ rfl (Ext.alloc (Ext.setCell (Ext.alloc (Ext.refl _) _) (by simp) _) _))
    · rw [show copyA rs a b k = ([], 2) by unfold copyA; rw [if_neg h0, if_neg (by rw [hl]; exact fun h => hia h.1)]]
      clear h0 hl hr
      go_enter_defers Try.func9, Try.ntmps9
      go_wp2_with (first | (go_at_call 22; refine (span_out A n c a k _ (by omega) hn).mono ?_; rintro e w1 ⟨ho, rfl⟩; obtain rfl := ho))
      exact leave_out (x := 0) (by simp) (by simp) (.tuple #[.slice none 0 0, .int .i64 2]) (fun o => by simp [results, Try.results9, go_sem]) (fun o => RetW.none_ rfl (Ext.alloc (Ext.setCell (Ext.alloc (Ext.refl _) _) (by simp) _) _))
end Go.Proofs.Ytodoeckikkeacaa
