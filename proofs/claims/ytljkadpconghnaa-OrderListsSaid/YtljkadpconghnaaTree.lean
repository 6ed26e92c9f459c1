/-
  A region that draws its order, where operations that are no steady ones may come in several orders: walked over a tree of orders. Any program; nothing here names one.
-/
import Derived.Test.YtljkadpconghnaaDraw
namespace Go.Draw

/-- a tree of orders: steady operations taken at once, alternatives between the others -/
inductive Tree where
  | done
  | take (i : Nat) (t : Tree)
  | alt (i : Nat) (t more : Tree)
  | none

def readyIn (ops : Array Oper) (c : List Nat) : List Nat :=
  (List.range ops.size).filter fun i => !c.contains i && ((ops[i]?).map fun o => (direct o).all c.contains).getD false

def okIn (ops : Array Oper) (c : List Nat) (i : Nat) : Bool :=
  match ops[i]? with
  | some o => !isSelect o.op && (direct o).all c.contains && !c.contains i
  | none => false

def chkTree (ops : Array Oper) (c seen : List Nat) : Tree → Bool
  | .done => (List.range ops.size).all c.contains
  | .take i t => seen.isEmpty && okIn ops c i && chkTree ops (i :: c) [] t
  | .alt i t more => okIn ops c i && chkTree ops (i :: c) [] t && chkTree ops c (i :: seen) more
  | .none => !seen.isEmpty && (readyIn ops c).all seen.contains

def wpTr (P : Program) (ops : Array Oper) (R : World → World → Prop) (Q : Act → World → Prop) : Tree → Act → World → Prop
  | .done, a, w => Q a w
  | .take i t, a, w =>
    match ops[i]? with
    | none => False
    | some o =>
      if Region.wanted o (yielded ops a.tmps) = true then ∃ v, (∀ w', R w w' → Runs P o a v w') ∧ wpTr P ops R Q t (a.put o.dst v) w
      else wpTr P ops R Q t (a.put o.dst undef) w
  | .alt i t more, a, w =>
    (match ops[i]? with
    | none => False
    | some o =>
      if Region.wanted o (yielded ops a.tmps) = true then o.wp P a w (fun a' w' => R w w' ∧ (∃ v, a' = a.put o.dst v) ∧ wpTr P ops R Q t a' w') (fun _ _ _ => False)
      else wpTr P ops R Q t (a.put o.dst undef) w) ∧ wpTr P ops R Q more a w
  | .none, _, _ => True

section
variable {P : Program} {ops : Array Oper} {R : World → World → Prop}

theorem okIn_of {c : List Nat} {i : Nat} (h : okIn ops c i = true) : ∃ o, ops[i]? = some o ∧ isSelect o.op = false ∧ (∀ j ∈ direct o, j ∈ c) ∧ i ∉ c := by
  simp only [okIn] at h
  cases ho : ops[i]? with
  | none => rw [ho] at h; cases h
  | some o =>
    rw [ho] at h
    simp only [Bool.and_eq_true, Bool.not_eq_true', List.all_eq_true, List.contains_eq_mem, decide_eq_true_eq, decide_eq_false_iff_not] at h
    exact ⟨o, rfl, h.1.1, h.1.2, h.2⟩

theorem down_cons {c : List Nat} {i : Nat} {o : Oper} (ho : ops[i]? = some o) (hd : ∀ j ∈ direct o, j ∈ c) (hD : Down ops (· ∈ c)) : Down ops (· ∈ i :: c) := by
  intro k x hx hk j hj
  rcases List.mem_cons.1 hk with hk | hk
  · subst hk
    rw [ho] at hx; injection hx with hx; subst hx
    exact List.mem_cons_of_mem _ (hd j hj)
  · exact List.mem_cons_of_mem _ (hD k x hx hk j hj)

/-- what stands taken ahead of a tree -/
structure Row (ops : Array Oper) (cl : List (List Nat)) (M c : List Nat) : Prop where
  pair : M.Pairwise (Rel ops cl)
  out : ∀ i ∈ M, i ∉ c
  down : Down ops (· ∈ M.reverse ++ c)
  sel : ∀ i ∈ M, ∃ x, ops[i]? = some x ∧ isSelect x.op = false ∧ i ∉ direct x

/-- the steady operations at the head are taken -/
theorem flush {cl : List (List Nat)} (hcl : clOk ops cl = true) {Q : Act → World → Prop} : ∀ (t : Tree) (c : List Nat) (a : Act) (w : World), Down ops (· ∈ c) → chkTree ops c [] t = true → wpTr P ops R Q t a w →
    ∃ (M : List (Nat × Value)) (t' : Tree), Pend P ops R M a w ∧ wpTr P ops R Q t' (puts ops M a) w ∧ chkTree ops ((M.map (·.1)).reverse ++ c) [] t' = true ∧ (∀ i u, t' ≠ .take i u) ∧ Row ops cl (M.map (·.1)) c
  | .done, c, a, w, hD, hc, h => ⟨[], .done, trivial, h, hc, (fun _ _ e => by cases e), ⟨by simp, by simp, by simpa using hD, by simp⟩⟩
  | .none, c, a, w, hD, hc, h => ⟨[], .none, trivial, h, hc, (fun _ _ e => by cases e), ⟨by simp, by simp, by simpa using hD, by simp⟩⟩
  | .alt i t more, c, a, w, hD, hc, h => ⟨[], .alt i t more, trivial, h, hc, (fun _ _ e => by cases e), ⟨by simp, by simp, by simpa using hD, by simp⟩⟩
  | .take i t, c, a, w, hD, hc, h => by
    simp only [chkTree, Bool.and_eq_true] at hc
    obtain ⟨⟨_, hok⟩, hc'⟩ := hc
    obtain ⟨o, ho, hs, hd, hn⟩ := okIn_of hok
    simp only [wpTr, ho] at h
    have key : ∃ v, Yl P ops R o v a w ∧ wpTr P ops R Q t (a.put o.dst v) w := by
      by_cases hw : Region.wanted o (yielded ops a.tmps) = true
      · rw [if_pos hw] at h
        obtain ⟨v, hv, hr⟩ := h
        exact ⟨v, .inl ⟨hw, hv⟩, hr⟩
      · rw [if_neg hw] at h
        exact ⟨undef, .inr ⟨by simpa using hw, rfl⟩, h⟩
    obtain ⟨v, hy, hr⟩ := key
    obtain ⟨M, t', h1, h2, h3, h4, h5⟩ := flush hcl t (i :: c) (a.put o.dst v) w (down_cons ho hd hD) hc' hr
    refine ⟨(i, v) :: M, t', ⟨o, ho, hy, h1⟩, by simpa [puts, ho] using h2, by simpa using h3, h4, ⟨?_, ?_, ?_, ?_⟩⟩
    · simp only [List.map_cons, List.pairwise_cons]
      refine ⟨fun q hq => ?_, h5.pair⟩
      have h6 := h5.out q hq
      simp only [List.mem_cons, not_or] at h6
      refine ⟨fun hc => h6.2 (cl_down hcl hD i i o (Nat.le_refl _) ho hd q hc), h6.1, fun x hx hc => ?_⟩
      rw [ho] at hx; injection hx with hx; subst hx
      exact h6.2 (hd q hc)
    · intro j hj
      simp only [List.map_cons, List.mem_cons] at hj
      rcases hj with rfl | hj
      · exact hn
      · exact fun hm => h5.out j hj (by simp [hm])
    · simpa using h5.down
    · intro j hj
      simp only [List.map_cons, List.mem_cons] at hj
      rcases hj with rfl | hj
      · exact ⟨o, ho, hs, fun hc => hn (hd _ hc)⟩
      · exact h5.sel j hj

/-- what may come up stands in the tree -/
theorem find {Q : Act → World → Prop} {i : Nat} {o : Oper} (ho : ops[i]? = some o) {c : List Nat} (hd : ∀ j ∈ direct o, j ∈ c) (hn : i ∉ c) : ∀ (t : Tree) (seen : List Nat) (a : Act) (w : World),
    (seen = [] → ∀ i u, t ≠ .take i u) → i ∉ seen → chkTree ops c seen t = true → wpTr P ops R Q t a w →
    ∃ t', chkTree ops (i :: c) [] t' = true ∧ isSelect o.op = false ∧
      (if Region.wanted o (yielded ops a.tmps) = true then o.wp P a w (fun a' w' => R w w' ∧ (∃ v, a' = a.put o.dst v) ∧ wpTr P ops R Q t' a' w') (fun _ _ _ => False)
      else wpTr P ops R Q t' (a.put o.dst undef) w)
  | .done, seen, a, w, hk, hs, hc, h => by
    exfalso
    simp only [chkTree, List.all_eq_true, List.mem_range, List.contains_eq_mem, decide_eq_true_eq] at hc
    exact hn (hc i (Array.getElem?_eq_some_iff.1 ho).1)
  | .none, seen, a, w, hk, hs, hc, h => by
    exfalso
    simp only [chkTree, Bool.and_eq_true, List.all_eq_true, List.contains_eq_mem, decide_eq_true_eq] at hc
    refine hs (hc.2 i ?_)
    simp only [readyIn, List.mem_filter, List.mem_range, ho, Option.map_some, Option.getD_some, Bool.and_eq_true, Bool.not_eq_true', List.all_eq_true, List.contains_eq_mem, decide_eq_true_eq, decide_eq_false_iff_not]
    exact ⟨(Array.getElem?_eq_some_iff.1 ho).1, hn, hd⟩
  | .take j t, seen, a, w, hk, hs, hc, h => by
    exfalso
    simp only [chkTree, Bool.and_eq_true, List.isEmpty_iff] at hc
    exact hk hc.1.1 j t rfl
  | .alt j t more, seen, a, w, hk, hs, hc, h => by
    simp only [chkTree, Bool.and_eq_true] at hc
    obtain ⟨⟨h1, h2⟩, h3⟩ := hc
    simp only [wpTr] at h
    by_cases e : i = j
    · subst e
      obtain ⟨o', ho', hs', _⟩ := okIn_of h1
      rw [ho] at ho'; injection ho' with ho'; subst ho'
      rw [ho] at h
      exact ⟨t, h2, hs', h.1⟩
    · exact find ho hd hn more (j :: seen) a w (fun e => by cases e) (by simp [e, hs]) h3 h.2

theorem count_lt {α : Type} {p q : α → Bool} : ∀ {l : List α} {i : α}, (∀ x ∈ l, p x = true → q x = true) → i ∈ l → p i = false → q i = true → l.countP p < l.countP q
  | [], _, _, hi, _, _ => by simp at hi
  | x :: l, i, h, hi, hp, hq => by
    have hle : l.countP p ≤ l.countP q := List.countP_mono_left (fun y hy => h y (List.mem_cons_of_mem _ hy))
    rcases List.mem_cons.1 hi with rfl | hi
    · rw [List.countP_cons_of_neg (by simp [hp]), List.countP_cons_of_pos hq]; omega
    · have ih := count_lt (fun y hy => h y (List.mem_cons_of_mem _ hy)) hi hp hq
      by_cases hx : p x = true
      · rw [List.countP_cons_of_pos hx, List.countP_cons_of_pos (h x (by simp) hx)]; omega
      · rw [List.countP_cons_of_neg hx]
        by_cases hy : q x = true
        · rw [List.countP_cons_of_pos hy]; omega
        · rw [List.countP_cons_of_neg hy]; omega

theorem simT {Q : Exit → Act → World → Prop} {cl : List (List Nat)} (hr : ∀ w, R w w) (ht : ∀ a b c, R a b → R b c → R a c) (hcl : clOk ops cl = true) (htm : tmpsOk ops cl = true) :
    ∀ (fuel : Nat) (listed : Array Bool) (L : List (Nat × Value)) (c : List Nat) (t : Tree) (a : Act) (w : World),
      (∀ i, i < ops.size → (listed.getD i true = true ↔ i ∈ c ∧ i ∉ L.map (·.1))) → listed.size = ops.size → Down ops (fun j => listed.getD j false = true) → Down ops (· ∈ c) → (∀ i ∈ c, i < ops.size) →
      (L.map (·.1)).Pairwise (Rel ops cl) → (∀ i ∈ L.map (·.1), i ∈ c ∧ ∃ x, ops[i]? = some x ∧ isSelect x.op = false ∧ i ∉ direct x) →
      chkTree ops c [] t = true → (∀ i u, t ≠ .take i u) → (List.range ops.size).countP (fun i => !listed.getD i true) ≤ fuel →
      Pend P ops R L a w → wpTr P ops R (Q .normal) t (puts ops L a) w → wpAny P .any ops Q fuel listed a w := by
  intro fuel
  induction fuel with
  | zero =>
    intro listed L c t a w hlist hls hDn hDc hcs hpl hLs hck htk hcount hp he
    have hall : ∀ i, i < ops.size → listed.getD i true = true := by
      intro i hi
      have := List.countP_eq_zero.1 (Nat.le_zero.1 hcount) i (by simpa using hi)
      simpa using this
    have hL : L = [] := by
      cases L with
      | nil => rfl
      | cons x L =>
        exfalso
        obtain ⟨h1, _⟩ := hLs x.1 (by simp)
        exact ((hlist x.1 (hcs _ h1)).1 (hall _ (hcs _ h1))).2 (by simp)
    subst hL
    refine ⟨?_, ?_⟩
    · simp only [Region.ready, List.filter_eq_nil_iff, List.mem_range]
      intro i hi
      simp only [hall i hi, Bool.not_true, Bool.false_and, Bool.false_eq_true, not_false_eq_true]
    · cases t with
      | done => exact he
      | take i u => exact absurd rfl (htk i u)
      | none => simp [chkTree] at hck
      | alt i t more =>
        exfalso
        simp only [chkTree, Bool.and_eq_true] at hck
        obtain ⟨o, ho, _, _, hn⟩ := okIn_of hck.1.1
        have hi := (Array.getElem?_eq_some_iff.1 ho).1
        exact hn ((hlist i hi).1 (hall i hi)).1
  | succ fuel ih =>
    intro listed L c t a w hlist hls hDn hDc hcs hpl hLs hck htk hcount hp he
    have hmem_ready : ∀ i, i ∈ Region.ready .any ops listed ↔ i < ops.size ∧ listed.getD i true = false ∧ ∀ o, ops[i]? = some o → ∀ j ∈ direct o, listed.getD j false = true := by
      intro i
      simp only [Region.ready, List.mem_filter, List.mem_range, Bool.and_eq_true, Bool.not_eq_true']
      constructor
      · rintro ⟨h1, h2, h3⟩
        refine ⟨h1, h2, fun o ho j hj => ?_⟩
        simp only [ho, Option.map_some, Option.getD_some, Array.all_eq_true', Bool.or_eq_true, Bool.not_eq_true'] at h3
        simp only [direct, List.mem_map, List.mem_filter] at hj
        obtain ⟨e, ⟨he1, he2⟩, rfl⟩ := hj
        have := h3 e (by simpa using he1)
        rw [he2] at this
        simpa using this
      · rintro ⟨h1, h2, h3⟩
        refine ⟨h1, h2, ?_⟩
        have ho : ops[i]? = some ops[i] := by simp [h1]
        simp only [ho, Option.map_some, Option.getD_some, Array.all_eq_true', Bool.or_eq_true, Bool.not_eq_true']
        intro e he
        cases hb : Region.binds .any e with
        | false => exact .inl rfl
        | true => exact .inr (h3 _ ho e.on (by simp only [direct, List.mem_map, List.mem_filter]; exact ⟨e, ⟨by simpa using he, hb⟩, rfl⟩))
    have hget : ∀ j, j < ops.size → listed.getD j false = listed.getD j true := by
      intro j hj
      simp [Array.getD, hls, hj]
    have hlc : ∀ j, listed.getD j false = true → j < ops.size ∧ j ∈ c ∧ j ∉ L.map (·.1) := by
      intro j hj
      have hjs : j < ops.size := by
        rcases Nat.lt_or_ge j ops.size with h | h
        · exact h
        · have h' : ¬ j < listed.size := by omega
          simp [Array.getD, h'] at hj
      rw [hget j hjs] at hj
      exact ⟨hjs, (hlist j hjs).1 hj⟩
    refine ⟨fun hnone => ?_, ?_⟩
    · cases L with
      | nil =>
        cases t with
        | done => exact he
        | take i u => exact absurd rfl (htk i u)
        | none => simp [chkTree] at hck
        | alt i t more =>
          exfalso
          simp only [chkTree, Bool.and_eq_true] at hck
          obtain ⟨o, ho, _, hd, hn⟩ := okIn_of hck.1.1
          have hi := (Array.getElem?_eq_some_iff.1 ho).1
          have : i ∈ Region.ready .any ops listed := (hmem_ready i).2 ⟨hi, by
            cases hg : listed.getD i true with
            | false => rfl
            | true => exact absurd ((hlist i hi).1 hg).1 hn, fun o' ho' j hj => by
            rw [ho] at ho'; injection ho' with ho'; subst ho'
            have hjc := hd j hj
            rw [hget j (hcs j hjc)]
            exact (hlist j (hcs j hjc)).2 ⟨hjc, by simp⟩⟩
          rw [hnone] at this
          simp at this
      | cons x L =>
        exfalso
        obtain ⟨i, v⟩ := x
        obtain ⟨hic, o, ho, _, hni⟩ := hLs i (by simp)
        have hi := hcs i hic
        simp only [List.map_cons, List.pairwise_cons] at hpl
        have : i ∈ Region.ready .any ops listed := (hmem_ready i).2 ⟨hi, by
          cases hg : listed.getD i true with
          | false => rfl
          | true => exact absurd (by simp) ((hlist i hi).1 hg).2, fun o' ho' j hj => by
          rw [ho] at ho'; injection ho' with ho'; subst ho'
          have hjc := hDc i o ho hic j hj
          rw [hget j (hcs j hjc)]
          refine (hlist j (hcs j hjc)).2 ⟨hjc, fun hjL => ?_⟩
          simp only [List.map_cons, List.mem_cons] at hjL
          rcases hjL with hjL | hjL
          · subst hjL; exact hni hj
          · exact (hpl.1 j hjL).2.2 o ho hj⟩
        rw [hnone] at this
        simp at this
    · intro i hi
      obtain ⟨hin, hun, hdir⟩ := (hmem_ready i).1 hi
      have ho : ops[i]? = some ops[i] := by simp [hin]
      generalize hoe : ops[i] = o at ho
      have hcl_i : ∀ j ∈ cl.getD i [], listed.getD j false = true := cl_down hcl hDn i i o (Nat.le_refl _) ho (hdir o ho)
      have hset0 : ∀ j, (listed.setIfInBounds i true).getD j false = if j = i then true else listed.getD j false := by
        intro j
        by_cases hji : j = i
        · subst hji; simp [Array.getD, hls, hin]
        · rw [if_neg hji]; simp only [Array.getD, Array.size_setIfInBounds]
          split
          · exact Array.getElem_setIfInBounds_ne _ (Ne.symm hji)
          · rfl
      have hDn' : Down ops (fun j => (listed.setIfInBounds i true).getD j false = true) := by
        intro k x hx hk j hj
        simp only [hset0] at hk ⊢
        by_cases hji : j = i
        · simp [hji]
        · rw [if_neg hji]
          by_cases hki : k = i
          · subst hki
            rw [ho] at hx; injection hx with hx; subst hx
            exact hdir o ho j hj
          · rw [if_neg hki] at hk
            exact hDn k x hx hk j hj
      have hsize' : (listed.setIfInBounds i true).size = ops.size := by simp [hls]
      have hset : ∀ j, (listed.setIfInBounds i true).getD j true = if j = i then true else listed.getD j true := by
        intro j
        by_cases hji : j = i
        · subst hji; simp [Array.getD, hls, hin]
        · rw [if_neg hji]; simp only [Array.getD, Array.size_setIfInBounds]
          split
          · exact Array.getElem_setIfInBounds_ne _ (Ne.symm hji)
          · rfl
      have hcount' : (List.range ops.size).countP (fun k => !(listed.setIfInBounds i true).getD k true) ≤ fuel := by
        have := count_lt (l := List.range ops.size) (p := fun k => !(listed.setIfInBounds i true).getD k true) (q := fun k => !listed.getD k true) (i := i)
          (fun x _ hx => by
            simp only [hset] at hx
            by_cases hxi : x = i
            · simp [hxi] at hx
            · simpa [hxi] using hx) (by simpa using hin) (by simp [hset]) (by simp [hun])
        omega
      by_cases hiL : i ∈ L.map (·.1)
      · obtain ⟨⟨i', v⟩, hm, hie⟩ := List.mem_map.1 hiL
        simp only at hie
        subst hie
        obtain ⟨L1, L2, hLe⟩ := List.append_of_mem hm
        subst hLe
        have hpl' := hpl
        simp only [List.map_append, List.map_cons, List.pairwise_append, List.pairwise_cons] at hpl
        obtain ⟨hp1, ⟨hafter, hp2⟩, hcross⟩ := hpl
        obtain ⟨_, o', ho', hso, _⟩ := hLs i' hiL
        rw [ho] at ho'; injection ho' with ho'; subst ho'
        have hfar : ∀ p ∈ L1, Far ops i' p.1 ∧ ∀ x, ops[p.1]? = some x → isSelect x.op = false := by
          intro p hpm
          have hrel := hcross p.1 (List.mem_map.2 ⟨p, hpm, rfl⟩) i' (by simp)
          have hpL : p.1 ∈ (L1 ++ (i', v) :: L2).map (·.1) := List.mem_map.2 ⟨p, by simp [hpm], rfl⟩
          refine ⟨far_of htm hrel.2.1 (fun hc => (hlc p.1 (hcl_i p.1 hc)).2.2 hpL) hrel.1, fun x hx => ?_⟩
          obtain ⟨_, x', hx', hs', _⟩ := hLs p.1 hpL
          rw [hx] at hx'; injection hx' with hx'; subst hx'
          exact hs'
        obtain ⟨hy, hp', hpe⟩ := Pend.pick ho hso L2 L1 a w hfar hp
        have hnot : i' ∉ (L1 ++ L2).map (·.1) := by
          simp only [List.map_append, List.mem_append, not_or]
          refine ⟨fun hc => ?_, fun hc => ?_⟩
          · exact (hcross i' hc i' (by simp)).2.1 rfl
          · exact (hafter i' hc).2.1 rfl
        have hsubm : ∀ k ∈ (L1 ++ L2).map (·.1), k ∈ (L1 ++ (i', v) :: L2).map (·.1) := by
          intro k hk
          simp only [List.map_append, List.mem_append, List.map_cons, List.mem_cons] at hk ⊢
          exact hk.elim .inl (fun h => .inr (.inr h))
        have hnext : wpAny P .any ops Q fuel (listed.setIfInBounds i' true) (a.put o.dst v) w := by
          refine ih _ (L1 ++ L2) c t _ w ?_ hsize' hDn' hDc hcs ?_ (fun k hk => hLs k (hsubm k hk)) hck htk hcount' hp' (by rw [hpe]; exact he)
          · intro k hk
            rw [hset]
            by_cases hki : k = i'
            · subst hki
              simp only [if_true, true_iff]
              exact ⟨(hLs k hiL).1, hnot⟩
            · rw [if_neg hki, hlist k hk]
              simp only [List.map_append, List.mem_append, List.map_cons, List.mem_cons, not_or, hki, not_false_eq_true, true_and]
          · refine hpl'.sublist ?_
            simp
        unfold wpOp
        simp only [ho]
        rcases hy with ⟨h1, h2⟩ | ⟨h1, h2⟩
        · rw [if_pos h1]
          refine .inl ?_
          unfold Oper.wp
          rcases h2 w (hr w) with h3 | ⟨f, args, h3, h4⟩
          · rw [h3]
            exact hnext
          · rw [h3]
            refine h4.mono ?_
            rintro e w'' ⟨rfl, rfl⟩
            exact hnext
        · rw [if_neg (by rw [h1]; simp)]
          subst h2
          exact hnext
      · have hic : i ∉ c := fun hc => by
          rw [(hlist i hin).2 ⟨hc, hiL⟩] at hun
          simp at hun
        have hdc : ∀ j ∈ direct o, j ∈ c := fun j hj => (hlc j (hdir o ho j hj)).2.1
        obtain ⟨t', hck', hso, hstep⟩ := find ho hdc hic t [] (puts ops L a) w (fun _ => htk) (by simp) hck he
        have hfar : ∀ p ∈ L, Far ops i p.1 ∧ ∀ x, ops[p.1]? = some x → isSelect x.op = false := by
          intro p hpm
          have hpL : p.1 ∈ L.map (·.1) := List.mem_map.2 ⟨p, hpm, rfl⟩
          obtain ⟨hpc, x', hx', hs', _⟩ := hLs p.1 hpL
          refine ⟨far_of htm (fun e => hiL (e ▸ hpL)) (fun hc => (hlc p.1 (hcl_i p.1 hc)).2.2 hpL) (fun hc => ?_), fun x hx => ?_⟩
          · exact hic (cl_down hcl hDc p.1 p.1 x' (Nat.le_refl _) hx' (fun j hj => hDc p.1 x' hx' hpc j hj) i hc)
          · rw [hx] at hx'; injection hx' with hx'; subst hx'
            exact hs'
        obtain ⟨hex, hwa⟩ := puts_exec ho hso L a (fun p hpm => (hfar p hpm).1)
        have hDc' : Down ops (· ∈ i :: c) := down_cons ho hdc hDc
        have hnext : ∀ v w', R w w' → wpTr P ops R (Q .normal) t' ((puts ops L a).put o.dst v) w' → wpAny P .any ops Q fuel (listed.setIfInBounds i true) (a.put o.dst v) w' := by
          intro v w' hrw he'
          obtain ⟨hpf, hpe⟩ := Pend.far ho v L a w hfar hp
          obtain ⟨M, t2, hM1, hM2, hM3, hM4, hM5⟩ := flush hcl t' (i :: c) _ w' hDc' hck' he'
          rw [← hpe] at hM1 hM2
          refine ih _ (L ++ M) ((M.map (·.1)).reverse ++ i :: c) t2 _ w' ?_ hsize' hDn' hM5.down ?_ ?_ ?_ hM3 hM4 hcount' (Pend.append L M _ w' (hpf.later ht hrw) hM1) (by rw [puts_append]; exact hM2)
          · intro k hk
            rw [hset]
            simp only [List.map_append, List.mem_append, List.mem_reverse, List.mem_cons]
            by_cases hki : k = i
            · subst hki
              simp only [if_true, true_iff]
              exact ⟨.inr (.inl trivial), fun h => h.elim hiL (fun h => hM5.out k h (by simp))⟩
            · rw [if_neg hki, hlist k hk]
              constructor
              · rintro ⟨h1, h2⟩
                exact ⟨.inr (.inr h1), fun h => h.elim h2 (fun h => hM5.out k h (by simp [h1]))⟩
              · rintro ⟨h1, h2⟩
                simp only [not_or] at h2
                rcases h1 with h1 | h1 | h1
                · exact absurd h1 h2.2
                · exact absurd h1 hki
                · exact ⟨h1, h2.1⟩
          · intro k hk
            simp only [List.mem_append, List.mem_reverse, List.mem_cons] at hk
            rcases hk with hk | hk | hk
            · obtain ⟨x, hx, _⟩ := hM5.sel k hk
              exact (Array.getElem?_eq_some_iff.1 hx).1
            · exact hk ▸ hin
            · exact hcs k hk
          · rw [List.map_append, List.pairwise_append]
            refine ⟨hpl, hM5.pair, fun p hpL q hq => ?_⟩
            obtain ⟨hpc, x', hx', _⟩ := hLs p hpL
            have hqn := hM5.out q hq
            simp only [List.mem_cons, not_or] at hqn
            refine ⟨fun hc => hqn.2 (cl_down hcl hDc p p x' (Nat.le_refl _) hx' (fun j hj => hDc p x' hx' hpc j hj) q hc), fun e => hqn.2 (e ▸ hpc), fun x hx hc => ?_⟩
            exact hqn.2 (hDc p x hx hpc q hc)
          · intro k hk
            rw [List.map_append, List.mem_append] at hk
            rcases hk with hk | hk
            · obtain ⟨h1, h2⟩ := hLs k hk
              exact ⟨by simp [h1], h2⟩
            · exact ⟨by simp only [List.mem_append, List.mem_reverse]; exact .inl hk, hM5.sel k hk⟩
        unfold wpOp
        simp only [ho]
        by_cases hw : Region.wanted o (yielded ops a.tmps) = true
        · rw [if_pos (by rw [hwa]; exact hw)] at hstep
          rw [if_pos hw]
          refine .inl (upon_mono_far (K := fun a' w' => R w w' ∧ wpTr P ops R (Q .normal) t' a' w') hex.symm ?_ (fun v w' hk => hnext v w' hk.1 hk.2))
          exact Oper.wp_mono (fun a' w' h => ⟨h.2.1, h.1, h.2.2⟩) hstep
        · rw [if_neg (by rw [hwa]; exact hw)] at hstep
          rw [if_neg hw]
          exact hnext undef w (hr w) hstep

def checkT (ops : Array Oper) (t : Tree) : Bool :=
  let cl := closures ops.toList
  clOk ops cl && tmpsOk ops cl && chkTree ops [] [] t

/-- A REGION THAT DRAWS ITS ORDER, WALKED OVER A TREE OF ORDERS. -/
theorem wp_region_tree {id : Nat} {Q : Exit → Act → World → Prop} {a : Act} {w : World} (R : World → World → Prop) (t : Tree) (hr : ∀ w, R w w) (ht : ∀ a b c, R a b → R b c → R a c)
    (hm : P.follows .mixedOrders = true) (hck : checkT ops t = true) (h : wpTr P ops R (Q .normal) t a w.drew) : (Code.region id ops true).wp P Q a w := by
  simp only [checkT, Bool.and_eq_true] at hck
  obtain ⟨⟨h1, h2⟩, h3⟩ := hck
  obtain ⟨M, t', k1, k2, k3, k4, k5⟩ := flush h1 t [] a _ (fun _ _ _ h => by simp at h) h3 h
  refine wp_region_any hm (simT hr ht h1 h2 ops.size _ M ((M.map (·.1)).reverse ++ []) t' a _ ?_ (by simp) ?_ k5.down ?_ k5.pair ?_ k3 k4 ?_ k1 k2)
  · intro i hi
    simp [Array.getD, hi]
  · intro i o ho hd
    have hi : i < ops.size := (Array.getElem?_eq_some_iff.1 ho).1
    simp [Array.getD, hi] at hd
  · intro k hk
    simp only [List.append_nil, List.mem_reverse] at hk
    obtain ⟨x, hx, _⟩ := k5.sel k hk
    exact (Array.getElem?_eq_some_iff.1 hx).1
  · intro k hk
    exact ⟨by simpa using hk, k5.sel k hk⟩
  · exact Nat.le_trans List.countP_le_length (by simp)

/-- the same, shut -/
structure wpT (P : Program) (ops : Array Oper) (R : World → World → Prop) (Q : Act → World → Prop) (t : Tree) (a : Act) (w : World) : Prop where
  out : wpTr P ops R Q t a w

section
variable {Q : Act → World → Prop} {a : Act} {w : World} {o : Oper} {S : List Nat} {i : Nat} {t more : Tree}
theorem wpT_none : wpT P ops R Q .none a w := ⟨by simp [wpTr]⟩
theorem wpT_done (h : Q a w) : wpT P ops R Q .done a w := ⟨by simpa [wpTr] using h⟩
theorem wpT_take {W : World} (hx : Ext W w) {v : Value} (ho : ops[i]? = some o) (hw : Region.wanted o (yielded ops a.tmps) = true)
    (hv : ∀ w', (∀ b f, (W.cell? ⟨b, f, none⟩).isSome = true → w'.cell? ⟨b, f, none⟩ = W.cell? ⟨b, f, none⟩) → (execOp a.eval o).run P w' = .ok (.value v) w')
    (h : wpT P ops Ext Q t (a.put o.dst v) w) : wpT P ops Ext Q (.take i t) a w := by
  refine ⟨?_⟩
  simp only [wpTr, ho]
  rw [if_pos hw]
  exact ⟨v, fun w' hr => .inl (hv w' (hx.trans hr).cell), h.out⟩
theorem wpT_takeB {W : World} (hx : But S W w) {v : Value} (ho : ops[i]? = some o) (hw : Region.wanted o (yielded ops a.tmps) = true)
    (hv : ∀ w', (∀ b f, b ∉ S → (W.cell? ⟨b, f, none⟩).isSome = true → w'.cell? ⟨b, f, none⟩ = W.cell? ⟨b, f, none⟩) → (execOp a.eval o).run P w' = .ok (.value v) w')
    (h : wpT P ops (But S) Q t (a.put o.dst v) w) : wpT P ops (But S) Q (.take i t) a w := by
  refine ⟨?_⟩
  simp only [wpTr, ho]
  rw [if_pos hw]
  exact ⟨v, fun w' hr => .inl (hv w' (hx.trans hr).cell), h.out⟩
theorem wpT_quiet (f : FuncId) {args : Array Value} {v : Value} (ho : ops[i]? = some o) (hw : Region.wanted o (yielded ops a.tmps) = true)
    (hv : ∀ w', (execOp a.eval o).run P w' = .ok (.enter f args) w')
    (hq : ∀ w', Calls P f args w' fun e w'' => e = .returned v ∧ w' = w'')
    (h : wpT P ops R Q t (a.put o.dst v) w) : wpT P ops R Q (.take i t) a w := by
  refine ⟨?_⟩
  simp only [wpTr, ho]
  rw [if_pos hw]
  exact ⟨v, fun w' _ => .inr ⟨f, args, hv w', hq w'⟩, h.out⟩
theorem wpT_skip (ho : ops[i]? = some o) (hw : Region.wanted o (yielded ops a.tmps) = false) (h : wpT P ops R Q t (a.put o.dst undef) w) : wpT P ops R Q (.take i t) a w := by
  refine ⟨?_⟩
  simp only [wpTr, ho]
  rw [if_neg (by rw [hw]; simp)]
  exact h.out
theorem wpT_pass (ho : ops[i]? = some o) (hw : Region.wanted o (yielded ops a.tmps) = false) (h : wpT P ops R Q t (a.put o.dst undef) w) (hm : wpT P ops R Q more a w) : wpT P ops R Q (.alt i t more) a w := by
  refine ⟨?_⟩
  simp only [wpTr, ho]
  rw [if_neg (by rw [hw]; simp)]
  exact ⟨h.out, hm.out⟩
theorem wpT_call (ho : ops[i]? = some o) (hw : Region.wanted o (yielded ops a.tmps) = true)
    (h : ∀ K : Act → World → Prop, (∀ v w', R w w' → (R w w' → wpT P ops R Q t (a.put o.dst v) w') → K (a.put o.dst v) w') → o.wp P a w K (fun _ _ _ => False))
    (hm : wpT P ops R Q more a w) : wpT P ops R Q (.alt i t more) a w := by
  refine ⟨?_⟩
  simp only [wpTr, ho]
  rw [if_pos hw]
  exact ⟨h _ fun v w' hr he => ⟨hr, ⟨v, rfl⟩, (he hr).out⟩, hm.out⟩
/-- the same for an operation without a slot: a store -/
theorem wpT_store (ho : ops[i]? = some o) (hd : o.dst = none) (hw : Region.wanted o (yielded ops a.tmps) = true)
    (h : ∀ K : Act → World → Prop, (∀ w', R w w' → (R w w' → wpT P ops R Q t a w') → K a w') → o.wp P a w K (fun _ _ _ => False))
    (hm : wpT P ops R Q more a w) : wpT P ops R Q (.alt i t more) a w :=
  wpT_call ho hw (fun K hK => h K fun w' hr he => by
    have := hK undef w' hr
    rw [hd] at this
    exact this he) hm
end
theorem wp_region_treeE {id : Nat} {Q : Exit → Act → World → Prop} {a : Act} {w : World} (t : Tree)
    (hm : P.follows .mixedOrders = true) (hck : checkT ops t = true) (h : Ext w.drew w.drew → wpT P ops Ext (Q .normal) t a w.drew) : (Code.region id ops true).wp P Q a w :=
  wp_region_tree Ext t Ext.refl (fun _ _ _ => Ext.trans) hm hck (h (Ext.refl _)).out
theorem wp_region_treeB (S : List Nat) {id : Nat} {Q : Exit → Act → World → Prop} {a : Act} {w : World} (t : Tree)
    (hm : P.follows .mixedOrders = true) (hck : checkT ops t = true) (h : But S w.drew w.drew → Ext w.drew w.drew → wpT P ops (But S) (Q .normal) t a w.drew) : (Code.region id ops true).wp P Q a w :=
  wp_region_tree (But S) t (But.refl S) (fun _ _ _ => But.trans) hm hck (h (But.refl _ _) (Ext.refl _)).out

/-- below N, what lies outside the blocks of S stands as it was -/
structure Bel (N : Nat) (S : List Nat) (w w' : World) : Prop where
  os : w'.os = w.os
  tape : w'.tape = w.tape
  output : w'.output = w.output
  size : w.heap.size ≤ w'.heap.size
  block : N ≤ w.heap.size → ∀ k, k < N → k ∉ S → w'.heap[k]? = w.heap[k]?
theorem Bel.refl (N : Nat) (S : List Nat) (w : World) : Bel N S w w := ⟨rfl, rfl, rfl, Nat.le_refl _, fun _ _ _ _ => rfl⟩
theorem Bel.trans {N : Nat} {S : List Nat} {a b c : World} (h : Bel N S a b) (k : Bel N S b c) : Bel N S a c :=
  ⟨k.os.trans h.os, k.tape.trans h.tape, k.output.trans h.output, Nat.le_trans h.size k.size, fun hN i hi hs => (k.block (Nat.le_trans hN h.size) i hi hs).trans (h.block hN i hi hs)⟩
theorem But.bel {S : List Nat} {w w' : World} (h : But S w w') (N : Nat) : Bel N S w w' := ⟨h.os, h.tape, h.output, h.size, fun hN k hk hs => h.block k (Nat.lt_of_lt_of_le hk hN) hs⟩
theorem Ext.bel {S : List Nat} {w w' : World} (h : Ext w w') (N : Nat) : Bel N S w w' := (h.but S).bel N
theorem Bel.but {S : List Nat} {w w' : World} (h : Bel w.heap.size S w w') : But S w w' := ⟨h.os, h.tape, h.output, h.size, fun k hk hs => h.block (Nat.le_refl _) k hk hs⟩
theorem Bel.alloc {N : Nat} {S : List Nat} {a w : World} (h : Bel N S a w) (o : Obj) : Bel N S a (w.alloc o) :=
  h.trans (((But.refl S w).alloc o).bel N)
theorem Bel.drew {N : Nat} {S : List Nat} {a w : World} (h : Bel N S a w) : Bel N S a w.drew := ⟨h.os, h.tape, h.output, h.size, h.block⟩
theorem Bel.drewL {N : Nat} {S : List Nat} {a w : World} (h : Bel N S a w) : Bel N S a.drew w := ⟨h.os, h.tape, h.output, h.size, h.block⟩
theorem Bel.setCell {N : Nat} {S : List Nat} {a w : World} (h : Bel N S a w) {p : Addr} (hp : N ≤ p.block) (u : Value) : Bel N S a (w.setCell p u) :=
  h.trans ⟨rfl, rfl, rfl, by simp [World.setCell], fun _ k hk _ => RowKit.Below.heap_setCell _ _ _ _ (fun e => by omega)⟩
theorem Bel.setIn {N : Nat} {S : List Nat} {a w : World} (h : Bel N S a w) {p : Addr} (hp : p.block ∈ S) (u : Value) : Bel N S a (w.setCell p u) :=
  h.trans ⟨rfl, rfl, rfl, by simp [World.setCell], fun _ k _ hs => RowKit.Below.heap_setCell _ _ _ _ (fun e => hs (e ▸ hp))⟩
theorem Bel.alloc1 {N : Nat} {S : List Nat} {w : World} {o o' : Obj} (hN : N ≤ w.heap.size) : Bel N S (w.alloc o) (w.alloc o') := by
  refine ⟨rfl, rfl, rfl, by simp, fun _ k hk _ => ?_⟩
  rw [RowKit.Below.heap_alloc _ _ _ (by omega), RowKit.Below.heap_alloc _ _ _ (by omega)]
theorem Bel.cell {N : Nat} {S : List Nat} {w w' : World} (h : Bel N S w w') (hN : N ≤ w.heap.size) (b o : Nat) (hb : b < N) (hs : b ∉ S) : w'.cell? ⟨b, o, none⟩ = w.cell? ⟨b, o, none⟩ :=
  World.cell?_of_block (w := w) (h.block hN b hb hs)
theorem wpT_takeN {N : Nat} {Q : Act → World → Prop} {a : Act} {w : World} {o : Oper} {S : List Nat} {i : Nat} {t : Tree} {W : World} (hx : Bel N S W w) (hN : N ≤ W.heap.size) {v : Value} (ho : ops[i]? = some o) (hw : Region.wanted o (yielded ops a.tmps) = true)
    (hv : ∀ w', (∀ b f, b < N → b ∉ S → w'.cell? ⟨b, f, none⟩ = W.cell? ⟨b, f, none⟩) → (execOp a.eval o).run P w' = .ok (.value v) w')
    (h : wpT P ops (Bel N S) Q t (a.put o.dst v) w) : wpT P ops (Bel N S) Q (.take i t) a w := by
  refine ⟨?_⟩
  simp only [wpTr, ho]
  rw [if_pos hw]
  exact ⟨v, fun w' hr => .inl (hv w' (fun b f hb hs => (hx.trans hr).cell hN b f hb hs)), h.out⟩
theorem wp_region_treeN (N : Nat) (S : List Nat) {id : Nat} {Q : Exit → Act → World → Prop} {a : Act} {w : World} (t : Tree)
    (hm : P.follows .mixedOrders = true) (hck : checkT ops t = true) (h : Bel N S w.drew w.drew → wpT P ops (Bel N S) (Q .normal) t a w.drew) : (Code.region id ops true).wp P Q a w :=
  wp_region_tree (Bel N S) t (Bel.refl N S) (fun _ _ _ => Bel.trans) hm hck (h (Bel.refl _ _ _)).out
end
end Go.Draw
