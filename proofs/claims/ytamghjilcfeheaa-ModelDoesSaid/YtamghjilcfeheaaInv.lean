/-
  A region that draws its order, walked operation by operation: each is shown for any order, from what is known of those that it waits for. Any program; nothing here names one.
-/
import Derived.Test.YtamghjilcfeheaaTree
namespace Go.Draw

def fill : List Oper → List Value → Act → Act
  | o :: os, x :: xs, a => fill os xs (a.put o.dst x)
  | _, _, a => a
def dsts (os : List Oper) : List Nat := os.filterMap (·.dst)

theorem put_put (a : Act) (d : Option Tmp) (x y : Value) : (a.put d x).put d y = a.put d y := by
  cases d with
  | none => rfl
  | some s => simp [Act.put]
theorem put_comm (a : Act) {d d' : Option Tmp} (x y : Value) (h : ∀ s, d = some s → d' ≠ some s) : (a.put d x).put d' y = (a.put d' y).put d x := by
  cases d with
  | none => rfl
  | some s =>
    cases d' with
    | none => rfl
    | some s' =>
      have hne : s ≠ s' := fun e => h s rfl (by rw [e])
      simp only [Act.put]
      congr 1
      exact Array.setIfInBounds_comm _ _ hne
theorem fill_put_out : ∀ (os : List Oper) (xs : List Value) (a : Act) (d : Option Tmp) (v : Value), (∀ s, d = some s → s ∉ dsts os) → (fill os xs a).put d v = fill os xs (a.put d v)
  | [], _, _, _, _, _ => by simp [fill]
  | _ :: _, [], _, _, _, _ => by simp [fill]
  | o :: os, x :: xs, a, d, v, h => by
    simp only [fill]
    rw [fill_put_out os xs (a.put o.dst x) d v (fun s hs hm => h s hs (by
      cases ho : o.dst with
      | none => simp [dsts, ho]; exact List.mem_filterMap.1 hm
      | some s' => simp [dsts, ho]; exact .inr (List.mem_filterMap.1 hm)))]
    rw [put_comm]
    intro s hs hd
    refine h s hd ?_
    simp [dsts, hs]
theorem fill_put : ∀ (os : List Oper) (xs : List Value) (a : Act) (i : Nat) (o : Oper) (v : Value), xs.length = os.length → (dsts os).Nodup → os[i]? = some o → (fill os xs a).put o.dst v = fill os (xs.set i v) a
  | [], _, _, i, _, _, _, _, h => by simp at h
  | _ :: _, [], _, _, _, _, h, _, _ => by simp at h
  | q :: os, x :: xs, a, 0, o, v, hl, hn, h => by
    simp at h
    subst h
    simp only [fill, List.set_cons_zero]
    rw [fill_put_out, put_put]
    intro s hs hm
    have : dsts (q :: os) = s :: dsts os := by simp [dsts, hs]
    rw [this] at hn
    exact (List.nodup_cons.1 hn).1 hm
  | q :: os, x :: xs, a, i + 1, o, v, hl, hn, h => by
    simp only [fill, List.set_cons_succ]
    refine fill_put os xs _ i o v (by simpa using hl) ?_ (by simpa using h)
    cases hq : q.dst with
    | none => have : dsts (q :: os) = dsts os := by simp [dsts, hq]
              rw [this] at hn; exact hn
    | some s => have : dsts (q :: os) = s :: dsts os := by simp [dsts, hq]
                rw [this] at hn; exact (List.nodup_cons.1 hn).2
theorem put_self (a : Act) (d : Option Tmp) : a.put d (match d with | some s => a.tmps.getD s undef | none => undef) = a := by
  cases d with
  | none => rfl
  | some s =>
    simp only [Act.put]
    have : a.tmps.setIfInBounds s (a.tmps.getD s undef) = a.tmps := by
      apply Array.ext
      · simp
      · intro i h1 h2
        by_cases hi : s = i
        · subst hi; simp [Array.getD, h2]
        · rw [Array.getElem_setIfInBounds_ne _ hi]
    rw [this]
theorem fill_self (a : Act) : ∀ os : List Oper, fill os (os.map fun o => match o.dst with | some s => a.tmps.getD s undef | none => undef) a = a
  | [] => rfl
  | o :: os => by
    simp only [List.map_cons, fill]
    rw [put_self]
    exact fill_self a os

def chkI (ops : Array Oper) : Bool :=
  decide (dsts ops.toList).Nodup && (List.range ops.size).all fun i => match ops[i]? with
    | some o => o.guard.isNone && (direct o).all (fun j => decide (j < i))
    | none => true

section
variable {P : Program} {ops : Array Oper} {R : World → World → Prop}
theorem wpAny_inv {Q : Exit → Act → World → Prop} {a0 : Act} {w0 : World} {G : Nat → Value → World → Prop} (ht : ∀ a b c, R a b → R b c → R a c) (hG : ∀ i v w w', R w w' → G i v w → G i v w') (hck : chkI ops = true)
    (hstep : ∀ (i : Nat) (o : Oper), ops[i]? = some o → ∀ (xs : List Value) (w : World), xs.length = ops.size → R w0 w → (∀ j ∈ direct o, G j (xs.getD j undef) w) →
      o.wp P (fill ops.toList xs a0) w (fun a' w' => R w w' ∧ ∃ v, a' = (fill ops.toList xs a0).put o.dst v ∧ G i v w') (fun _ _ _ => False))
    (hend : ∀ (xs : List Value) (w : World), xs.length = ops.size → R w0 w → (∀ i, i < ops.size → G i (xs.getD i undef) w) → Q .normal (fill ops.toList xs a0) w) :
    ∀ (fuel : Nat) (listed : Array Bool) (xs : List Value) (w : World), listed.size = ops.size → xs.length = ops.size → R w0 w → (∀ i, i < ops.size → listed.getD i true = true → G i (xs.getD i undef) w) →
      (List.range ops.size).countP (fun i => !listed.getD i true) ≤ fuel → wpAny P .any ops Q fuel listed (fill ops.toList xs a0) w := by
  simp only [chkI, Bool.and_eq_true, decide_eq_true_eq, List.all_eq_true, List.mem_range] at hck
  obtain ⟨hnd, hops⟩ := hck
  have hop : ∀ i o, ops[i]? = some o → o.guard = none ∧ ∀ j ∈ direct o, j < i := fun i o ho => by
    have := hops i (Array.getElem?_eq_some_iff.1 ho).1
    rw [ho] at this
    simp only [Bool.and_eq_true, Option.isNone_iff_eq_none, List.all_eq_true, decide_eq_true_eq] at this
    exact this
  intro fuel
  induction fuel with
  | zero =>
    intro listed xs w hls hxl hR hGl hcount
    have hall : ∀ i, i < ops.size → listed.getD i true = true := by
      intro i hi
      have := List.countP_eq_zero.1 (Nat.le_zero.1 hcount) i (by simpa using hi)
      simpa using this
    refine ⟨?_, hend xs w hxl hR (fun i hi => hGl i hi (hall i hi))⟩
    simp only [Region.ready, List.filter_eq_nil_iff, List.mem_range]
    intro i hi
    simp only [hall i hi, Bool.not_true, Bool.false_and, Bool.false_eq_true, not_false_eq_true]
  | succ fuel ih =>
    intro listed xs w hls hxl hR hGl hcount
    have hmem_ready : ∀ i, i ∈ Region.ready .any ops listed ↔ i < ops.size ∧ listed.getD i true = false ∧ ∀ o, ops[i]? = some o → ∀ j ∈ direct o, listed.getD j false = true := by
      intro i
      simp only [Region.ready, List.mem_filter, List.mem_range, Bool.and_eq_true, Bool.not_eq_true']
      constructor
      · rintro ⟨h1, h2, h3⟩
        refine ⟨h1, h2, fun o ho j hj => ?_⟩
        simp only [ho, Option.map_some, Option.getD_some, Array.all_eq_true', Bool.or_eq_true, Bool.not_eq_true'] at h3
        simp only [direct, List.mem_map, List.mem_filter] at hj
        obtain ⟨e, ⟨he1, he2⟩, rfl⟩ := hj
        have := h3 e (by simpa using he1)
        rw [he2] at this
        simpa using this
      · rintro ⟨h1, h2, h3⟩
        refine ⟨h1, h2, ?_⟩
        have ho : ops[i]? = some ops[i] := by simp [h1]
        simp only [ho, Option.map_some, Option.getD_some, Array.all_eq_true', Bool.or_eq_true, Bool.not_eq_true']
        intro e he
        cases hb : Region.binds .any e with
        | false => exact .inl rfl
        | true => exact .inr (h3 _ ho e.on (by simp only [direct, List.mem_map, List.mem_filter]; exact ⟨e, ⟨by simpa using he, hb⟩, rfl⟩))
    have hget : ∀ j, j < ops.size → listed.getD j false = listed.getD j true := by
      intro j hj
      simp [Array.getD, hls, hj]
    refine ⟨fun hnone => ?_, ?_⟩
    · have hall : ∀ i, i < ops.size → listed.getD i true = true := by
        intro i
        induction i using Nat.strongRecOn with
        | _ i ihi =>
          intro hi
          cases hg : listed.getD i true with
          | true => rfl
          | false =>
            exfalso
            have : i ∈ Region.ready .any ops listed := (hmem_ready i).2 ⟨hi, hg, fun o ho j hj => by
              have hji := (hop i o ho).2 j hj
              rw [hget j (by omega)]
              exact ihi j hji (by omega)⟩
            rw [hnone] at this
            simp at this
      exact hend xs w hxl hR (fun i hi => hGl i hi (hall i hi))
    · intro i hi
      obtain ⟨hin, hun, hdir⟩ := (hmem_ready i).1 hi
      have ho : ops[i]? = some ops[i] := by simp [hin]
      generalize hoe : ops[i] = o at ho
      have hsize' : (listed.setIfInBounds i true).size = ops.size := by simp [hls]
      have hset : ∀ j, (listed.setIfInBounds i true).getD j true = if j = i then true else listed.getD j true := by
        intro j
        by_cases hji : j = i
        · subst hji; simp [Array.getD, hls, hin]
        · rw [if_neg hji]; simp only [Array.getD, Array.size_setIfInBounds]
          split
          · exact Array.getElem_setIfInBounds_ne _ (Ne.symm hji)
          · rfl
      have hcount' : (List.range ops.size).countP (fun j => !(listed.setIfInBounds i true).getD j true) ≤ fuel := by
        have : (List.range ops.size).countP (fun j => !(listed.setIfInBounds i true).getD j true) < (List.range ops.size).countP (fun j => !listed.getD j true) := by
          refine count_lt (i := i) (fun x hx => ?_) (by simpa using hin) ?_ ?_
          · rw [hset]; split <;> simp
          · rw [hset]; simp
          · rw [hun]; rfl
        omega
      have hs := hstep i o ho xs w hxl hR (fun j hj => by
        have hji := (hop i o ho).2 j hj
        refine hGl j (by omega) ?_
        rw [← hget j (by omega)]
        exact hdir o ho j hj)
      unfold wpOp
      simp only [ho]
      rw [if_pos (by simp only [Region.wanted, (hop i o ho).1])]
      refine .inl (upon_mono_far (K := fun a' w' => R w w' ∧ ∃ v, a' = (fill ops.toList xs a0).put o.dst v ∧ G i v w') rfl ?_ ?_)
      · exact Oper.wp_mono (fun a' w' h => ⟨by obtain ⟨_, v, hv, _⟩ := h; exact ⟨v, hv⟩, h⟩) hs
      · intro u w' hk
        obtain ⟨hr, v, hv, hg⟩ := hk
        rw [hv, fill_put ops.toList xs a0 i o v (by simpa using hxl) hnd (by simpa using ho)]
        refine ih _ (xs.set i v) w' hsize' (by simpa using hxl) (ht _ _ _ hR hr) (fun j hj hl => ?_) hcount'
        by_cases hji : j = i
        · subst hji
          rw [List.getD_eq_getElem?_getD, List.getElem?_set_self (by omega)]
          exact hg
        · rw [List.getD_eq_getElem?_getD, List.getElem?_set_ne (Ne.symm hji), ← List.getD_eq_getElem?_getD]
          rw [hset, if_neg hji] at hl
          exact hG j _ w w' hr (hGl j hj hl)

/-- one operation's part -/
structure OneOp (P : Program) (o : Oper) (i : Nat) (a : Act) (xs : List Value) (R : World → World → Prop) (G : Nat → Value → World → Prop) (w : World) : Prop where
  out : (∀ j ∈ direct o, G j (xs.getD j undef) w) → ∀ K : Act → World → Prop, (∀ v w', R w w' → G i v w' → K (a.put o.dst v) w') → o.wp P a w K (fun _ _ _ => False)
def EachOp (P : Program) : List Oper → Nat → Act → List Value → (World → World → Prop) → (Nat → Value → World → Prop) → World → Prop
  | [], _, _, _, _, _, _ => True
  | o :: os, i, a, xs, R, G, w => OneOp P o i a xs R G w ∧ EachOp P os (i + 1) a xs R G w
theorem each_at {R : World → World → Prop} {G : Nat → Value → World → Prop} {a : Act} {xs : List Value} {w : World} : ∀ {os : List Oper} {k i : Nat} {o : Oper}, EachOp P os k a xs R G w → os[i]? = some o → (∀ j ∈ direct o, G j (xs.getD j undef) w) →
    o.wp P a w (fun a' w' => R w w' ∧ ∃ v, a' = a.put o.dst v ∧ G (k + i) v w') (fun _ _ _ => False)
  | [], _, _, _, _, h, _ => by simp at h
  | q :: os, k, 0, o, h, ho, hd => by
    simp at ho
    subst ho
    exact h.1.out hd _ (fun v w' h1 h2 => ⟨h1, v, rfl, h2⟩)
  | q :: os, k, i + 1, o, h, ho, hd => by
    have := each_at h.2 (by simpa using ho) hd
    rwa [show k + 1 + i = k + (i + 1) by omega] at this

/-- A REGION THAT DRAWS ITS ORDER, WALKED OPERATION BY OPERATION. -/
theorem wp_region_inv {id : Nat} {Q : Exit → Act → World → Prop} {a : Act} {w : World} (R : World → World → Prop) (hr : ∀ w, R w w) (ht : ∀ a b c, R a b → R b c → R a c) (G : Nat → Value → World → Prop) (hG : ∀ i v w w', R w w' → G i v w → G i v w')
    (hm : P.follows .mixedOrders = true) (hck : chkI ops = true)
    (hstep : ∀ (xs : List Value) (w' : World), xs.length = ops.size → R w.drew w' → EachOp P ops.toList 0 (fill ops.toList xs a) xs R G w')
    (hend : ∀ (xs : List Value) (w' : World), xs.length = ops.size → R w.drew w' → (∀ i, i < ops.size → G i (xs.getD i undef) w') → Q .normal (fill ops.toList xs a) w') : (Code.region id ops true).wp P Q a w := by
  have h := wpAny_inv (Q := Q) (a0 := a) (w0 := w.drew) ht hG hck (fun i o ho xs w' hx hR hd => by have := each_at (hstep xs w' hx hR) (by simpa using ho) hd; rwa [Nat.zero_add] at this) hend ops.size (Array.replicate ops.size false) (ops.toList.map fun o => match o.dst with | some s => a.tmps.getD s undef | none => undef) w.drew (by simp) (by simp) (hr _)
    (fun i hi h => by simp [Array.getD, hi] at h) (by
      have := List.countP_le_length (p := fun i => !(Array.replicate ops.size false).getD i true) (l := List.range ops.size)
      simpa using this)
  rw [fill_self] at h
  exact wp_region_any hm h
end
end Go.Draw
