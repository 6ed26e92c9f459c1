/-
  A region that draws its order, walked in ONE order (wp_region_ext, wp_region_below): steady operations are taken as soon as they may run, the others stand in a chain. Any program; nothing here names one.
-/
import Derived.Orders
import Derived.Laws.World
import Derived.Below
import Derived.ChangeSame
namespace Go.Draw

/-- the operations that bind ahead of an operation -/
def direct (o : Oper) : List Nat := (o.after.toList.filter (Region.binds .any ·)).map (·.on)

/-- a table of closures: what surely has run ahead of each operation -/
def closures (ops : List Oper) : List (List Nat) :=
  ops.foldl (fun acc o => acc ++ [((direct o).flatMap fun j => j :: acc.getD j []).eraseDups]) []

def clOk (ops : Array Oper) (cl : List (List Nat)) : Bool :=
  (List.range ops.size).all fun i => (cl.getD i []).all fun j =>
    match ops[i]? with
    | some o => (direct o).any fun k => k == j || (decide (k < i) && (cl.getD k []).contains j)
    | none => false

def touches (ops : Array Oper) (x y : Oper) : Bool :=
  match y.dst with
  | some d => (x.looksAt ops).contains d || x.dst == some d
  | none => false

def isSelect : Op → Bool
  | .select .. => true
  | _ => false

/-- the walk in one order: 'true': a steady operation; 'false': one of the chain -/
def orderOk (ops : Array Oper) (cl : List (List Nat)) : List Nat → Option Nat → List (Bool × Nat) → Bool
  | _, _, [] => true
  | done, last, (st, i) :: rest =>
    (match ops[i]? with
      | some o => !isSelect o.op && (direct o).all done.contains
      | none => false) &&
    !done.contains i &&
    (match last with
      | some c => (cl.getD i []).contains c
      | none => true) &&
    orderOk ops cl (i :: done) (if st then last else some i) rest

def tmpsOk (ops : Array Oper) (cl : List (List Nat)) : Bool :=
  (List.range ops.size).all fun i => (List.range ops.size).all fun j =>
    i == j || (match ops[i]?, ops[j]? with
      | some x, some y => !touches ops x y || (cl.getD i []).contains j || (cl.getD j []).contains i
      | _, _ => true)

def check (ops : Array Oper) (pi : List (Bool × Nat)) : Bool :=
  let cl := closures ops.toList
  decide (pi.length ≤ ops.size) && clOk ops cl && tmpsOk ops cl && (List.range ops.size).all (fun i => (pi.map (·.2)).contains i) && orderOk ops cl [] none pi

/-- run in w', the operation yields v and leaves w' as it is: by itself, or by a call that only reckons -/
def Runs (P : Program) (o : Oper) (a : Act) (v : Value) (w' : World) : Prop :=
  (execOp a.eval o).run P w' = .ok (.value v) w' ∨ ∃ f args, (execOp a.eval o).run P w' = .ok (.enter f args) w' ∧ Calls P f args w' fun e w'' => e = .returned v ∧ w' = w''

def wpE (P : Program) (ops : Array Oper) (R : World → World → Prop) (Q : Act → World → Prop) : List (Bool × Nat) → Act → World → Prop
  | [], a, w => Q a w
  | (st, i) :: rest, a, w =>
    match ops[i]? with
    | none => False
    | some o =>
      if Region.wanted o (yielded ops a.tmps) = true then
        if st = true then ∃ v, (∀ w', R w w' → Runs P o a v w') ∧ wpE P ops R Q rest (a.put o.dst v) w
        else o.wp P a w (fun a' w' => R w w' ∧ (∃ v, a' = a.put o.dst v) ∧ wpE P ops R Q rest a' w') (fun _ _ _ => False)
      else wpE P ops R Q rest (a.put o.dst undef) w

section
variable {P : Program} {ops : Array Oper} {R : World → World → Prop}

def Yl (P : Program) (ops : Array Oper) (R : World → World → Prop) (o : Oper) (v : Value) (a : Act) (w : World) : Prop :=
  (Region.wanted o (yielded ops a.tmps) = true ∧ ∀ w', R w w' → Runs P o a v w') ∨
  (Region.wanted o (yielded ops a.tmps) = false ∧ v = undef)

/-- what stands taken ahead, in the order of the walk -/
def Pend (P : Program) (ops : Array Oper) (R : World → World → Prop) : List (Nat × Value) → Act → World → Prop
  | [], _, _ => True
  | (i, v) :: L, a, w => ∃ o, ops[i]? = some o ∧ Yl P ops R o v a w ∧ Pend P ops R L (a.put o.dst v) w

def puts (ops : Array Oper) : List (Nat × Value) → Act → Act
  | [], a => a
  | (i, v) :: L, a => puts ops L (a.put ((ops[i]?).bind (·.dst)) v)

/-- no write of the one is seen by the other, both ways -/
def Far (ops : Array Oper) (i j : Nat) : Prop :=
  ∀ x y, ops[i]? = some x → ops[j]? = some y → touches ops x y = false ∧ touches ops y x = false

theorem not_touches {x y : Oper} (h : touches ops x y = false) : (∀ d, y.dst = some d → d ∉ x.looksAt ops) ∧ (∀ d, y.dst = some d → x.dst ≠ some d) := by
  refine ⟨fun d hd => ?_, fun d hd => ?_⟩ <;> simp [touches, hd] at h
  · exact h.1
  · exact h.2

theorem Yl.put {o x : Oper} {v u : Value} {a : Act} {w : World} (hs : isSelect o.op = false) (h : touches ops o x = false) :
    Yl P ops R o v (a.put x.dst u) w ↔ Yl P ops R o v a w := by
  have h1 := (not_touches h).1
  have hs' : ∀ cs b, o.op ≠ .select cs b := by intro cs b e; rw [e] at hs; simp [isSelect] at hs
  unfold Yl Runs
  rw [wanted_put o a x.dst u h1, execOp_put (ops := ops) o hs' a x.dst u h1]

theorem Yl.later (ht : ∀ a b c, R a b → R b c → R a c) {o : Oper} {v : Value} {a : Act} {w w' : World} (h : Yl P ops R o v a w) (hr : R w w') : Yl P ops R o v a w' := by
  rcases h with ⟨h1, h2⟩ | h
  · exact .inl ⟨h1, fun w2 h3 => h2 w2 (ht _ _ _ hr h3)⟩
  · exact .inr h

theorem Pend.later (ht : ∀ a b c, R a b → R b c → R a c) {w w' : World} (hr : R w w') : ∀ (L : List (Nat × Value)) (a : Act), Pend P ops R L a w → Pend P ops R L a w'
  | [], _, _ => trivial
  | (_, _) :: L, _, ⟨o, ho, hy, hp⟩ => ⟨o, ho, hy.later ht hr, Pend.later ht hr L _ hp⟩

theorem put_comm' {x y : Oper} (h : touches ops x y = false) (a : Act) (v u : Value) : (a.put x.dst v).put y.dst u = (a.put y.dst u).put x.dst v :=
  Act.put_comm a v u (fun d hd hy => (not_touches h).2 d hy hd)

/-- an operation far from all that stands taken writes: the puts commute, what is taken stands -/
theorem Pend.far {i : Nat} {o : Oper} (ho : ops[i]? = some o) (u : Value) : ∀ (L : List (Nat × Value)) (a : Act) (w : World),
    (∀ p ∈ L, Far ops i p.1 ∧ ∀ x, ops[p.1]? = some x → isSelect x.op = false) → Pend P ops R L a w →
    Pend P ops R L (a.put o.dst u) w ∧ puts ops L (a.put o.dst u) = (puts ops L a).put o.dst u
  | [], _, _, _, _ => ⟨trivial, rfl⟩
  | (j, v) :: L, a, w, hf, ⟨x, hx, hy, hp⟩ => by
    obtain ⟨h1, h2⟩ := hf (j, v) (by simp)
    obtain ⟨h3, h4⟩ := h1 o x ho hx
    have hc := put_comm' (ops := ops) h3 a u v
    obtain ⟨h5, h6⟩ := Pend.far ho u L (a.put x.dst v) w (fun p hp' => hf p (by simp [hp'])) hp
    refine ⟨⟨x, hx, (Yl.put (h2 x hx) h4).2 hy, ?_⟩, ?_⟩
    · rw [hc]; exact h5
    · simp only [puts, hx, Option.bind_some]
      rw [hc]; exact h6

/-- one that stands taken, far from those ahead of it, comes up -/
theorem Pend.pick {i : Nat} {o : Oper} {v : Value} (ho : ops[i]? = some o) (hso : isSelect o.op = false) (L2 : List (Nat × Value)) : ∀ (L1 : List (Nat × Value)) (a : Act) (w : World),
    (∀ p ∈ L1, Far ops i p.1 ∧ ∀ x, ops[p.1]? = some x → isSelect x.op = false) → Pend P ops R (L1 ++ (i, v) :: L2) a w →
    Yl P ops R o v a w ∧ Pend P ops R (L1 ++ L2) (a.put o.dst v) w ∧ puts ops (L1 ++ L2) (a.put o.dst v) = puts ops (L1 ++ (i, v) :: L2) a
  | [], a, w, _, ⟨x, hx, hy, hp⟩ => by
    obtain rfl : o = x := by rw [ho] at hx; injection hx
    exact ⟨hy, hp, by simp [puts, ho]⟩
  | (j, u) :: L1, a, w, hf, ⟨x, hx, hy, hp⟩ => by
    obtain ⟨h1, h2⟩ := hf (j, u) (by simp)
    obtain ⟨h3, h4⟩ := h1 o x ho hx
    obtain ⟨k1, k2, k3⟩ := Pend.pick ho hso L2 L1 (a.put x.dst u) w (fun p hp' => hf p (by simp [hp'])) hp
    have hc := put_comm' (ops := ops) h3 a v u
    refine ⟨(Yl.put hso h3).1 k1, ⟨x, hx, (Yl.put (h2 x hx) h4).2 hy, ?_⟩, ?_⟩
    · rw [hc]; exact k2
    · simp only [List.cons_append, puts, hx, Option.bind_some]
      rw [hc]; exact k3

theorem Pend.append : ∀ (L M : List (Nat × Value)) (a : Act) (w : World), Pend P ops R L a w → Pend P ops R M (puts ops L a) w → Pend P ops R (L ++ M) a w
  | [], _, _, _, _, h => h
  | (i, v) :: L, M, a, w, ⟨o, ho, hy, hp⟩, h => ⟨o, ho, hy, Pend.append L M _ w hp (by simpa [puts, ho] using h)⟩

theorem puts_append : ∀ (L M : List (Nat × Value)) (a : Act), puts ops (L ++ M) a = puts ops M (puts ops L a)
  | [], _, _ => rfl
  | (_, _) :: L, M, _ => puts_append L M _

/-- a row of steady operations is taken -/
theorem take_steady {Q : Act → World → Prop} : ∀ (r : List (Bool × Nat)) (rest : List (Bool × Nat)) (a : Act) (w : World), (∀ p ∈ r, p.1 = true) → wpE P ops R Q (r ++ rest) a w →
    ∃ M : List (Nat × Value), M.map (·.1) = r.map (·.2) ∧ Pend P ops R M a w ∧ wpE P ops R Q rest (puts ops M a) w
  | [], _, _, _, _, h => ⟨[], rfl, trivial, h⟩
  | (st, i) :: r, rest, a, w, hs, h => by
    obtain rfl : st = true := hs (st, i) (by simp)
    simp only [List.cons_append, wpE] at h
    cases ho : ops[i]? with
    | none => simp [ho] at h
    | some o =>
      simp only [ho, if_true] at h
      by_cases hw : Region.wanted o (yielded ops a.tmps) = true
      · rw [if_pos hw] at h
        obtain ⟨v, hv, hr⟩ := h
        obtain ⟨M, hM, hp, he⟩ := take_steady r rest (a.put o.dst v) w (fun p hp => hs p (by simp [hp])) hr
        exact ⟨(i, v) :: M, by simp [hM], ⟨o, ho, .inl ⟨hw, hv⟩, hp⟩, by simpa [puts, ho] using he⟩
      · rw [if_neg hw] at h
        obtain ⟨M, hM, hp, he⟩ := take_steady r rest (a.put o.dst undef) w (fun p hp => hs p (by simp [hp])) h
        exact ⟨(i, undef) :: M, by simp [hM], ⟨o, ho, .inr ⟨by simpa using hw, rfl⟩, hp⟩, by simpa [puts, ho] using he⟩

def Down (ops : Array Oper) (D : Nat → Prop) : Prop := ∀ (i : Nat) (o : Oper), ops[i]? = some o → D i → ∀ j ∈ direct o, D j

theorem cl_down {cl : List (List Nat)} (hcl : clOk ops cl = true) {D : Nat → Prop} (hD : Down ops D) : ∀ (n i : Nat) (o : Oper), i ≤ n → ops[i]? = some o → (∀ j ∈ direct o, D j) → ∀ j ∈ cl.getD i [], D j := by
  intro n
  induction n with
  | zero =>
    intro i o hi ho hd j hj
    have hin : i < ops.size := (Array.getElem?_eq_some_iff.1 ho).1
    have h1 := List.all_eq_true.1 hcl i (by simpa using hin)
    have h2 := List.all_eq_true.1 h1 j hj
    simp only [ho, List.any_eq_true, Bool.or_eq_true, beq_iff_eq, Bool.and_eq_true, decide_eq_true_eq] at h2
    obtain ⟨k, hk, h3 | ⟨h3, _⟩⟩ := h2
    · exact h3 ▸ hd k hk
    · omega
  | succ n ih =>
    intro i o hi ho hd j hj
    have hin : i < ops.size := (Array.getElem?_eq_some_iff.1 ho).1
    have h1 := List.all_eq_true.1 hcl i (by simpa using hin)
    have h2 := List.all_eq_true.1 h1 j hj
    simp only [ho, List.any_eq_true, Bool.or_eq_true, beq_iff_eq, Bool.and_eq_true, decide_eq_true_eq] at h2
    obtain ⟨k, hk, h3 | ⟨h3, h4⟩⟩ := h2
    · exact h3 ▸ hd k hk
    · have hkn : k < ops.size := by omega
      exact ih k ops[k] (by omega) (by simp [hkn]) (hD k ops[k] (by simp [hkn]) (hd k hk)) j (by simpa using h4)

def lastOf : Option Nat → List (Bool × Nat) → Option Nat
  | l, [] => l
  | l, (st, i) :: r => lastOf (if st then l else some i) r

theorem lastOf_chain : ∀ (r : List (Bool × Nat)) (l : Option Nat), (∃ p ∈ r, p.1 = false) → ∃ k, lastOf l r = some k ∧ k ∈ r.map (·.2)
  | [], _, ⟨_, h, _⟩ => by simp at h
  | (st, i) :: r, l, ⟨p, hp, hf⟩ => by
    by_cases hr : ∃ q ∈ r, q.1 = false
    · obtain ⟨k, h1, h2⟩ := lastOf_chain r (if st then l else some i) hr
      exact ⟨k, h1, by simp at h2 ⊢; exact .inr h2⟩
    · have hpe : p = (st, i) := by
        rcases List.mem_cons.1 hp with h | h
        · exact h
        · exact absurd ⟨p, h, hf⟩ hr
      subst hpe
      have hst : st = false := hf
      subst hst
      have : ∀ (r : List (Bool × Nat)) (l : Option Nat), (¬ ∃ q ∈ r, q.1 = false) → lastOf l r = l := by
        intro r
        induction r with
        | nil => intro l _; rfl
        | cons q r ih =>
          intro l hq
          obtain ⟨st, i⟩ := q
          have : st = true := by
            cases st with
            | true => rfl
            | false => exact absurd ⟨(false, i), by simp, rfl⟩ hq
          subst this
          simp only [lastOf, if_true]
          exact ih l (fun ⟨q, h, h'⟩ => hq ⟨q, by simp [h], h'⟩)
      exact ⟨i, by simp only [lastOf]; exact this r _ hr, by simp⟩

theorem order_at {cl : List (List Nat)} : ∀ (p : List (Bool × Nat)) (dn : List Nat) (l : Option Nat) (st : Bool) (i : Nat) (r : List (Bool × Nat)), orderOk ops cl dn l (p ++ (st, i) :: r) = true →
    ∃ o, ops[i]? = some o ∧ isSelect o.op = false ∧ (∀ j ∈ direct o, j ∈ dn ∨ j ∈ p.map (·.2)) ∧ i ∉ dn ∧ i ∉ p.map (·.2) ∧ (∀ k, lastOf l p = some k → k ∈ cl.getD i [])
  | [], dn, l, st, i, r, h => by
    simp only [List.nil_append, orderOk, Bool.and_eq_true, Bool.not_eq_true', List.contains_eq_mem, decide_eq_false_iff_not] at h
    obtain ⟨⟨⟨h1, h2⟩, h3⟩, _⟩ := h
    cases ho : ops[i]? with
    | none => simp [ho] at h1
    | some o =>
      simp only [ho, Bool.and_eq_true, Bool.not_eq_true', List.all_eq_true] at h1
      refine ⟨o, rfl, h1.1, fun j hj => .inl (by simpa using h1.2 j hj), h2, by simp, fun k hk => ?_⟩
      simp only [lastOf] at hk
      subst hk
      simpa using h3
  | (s', i') :: p, dn, l, st, i, r, h => by
    simp only [List.cons_append, orderOk, Bool.and_eq_true] at h
    obtain ⟨o, h1, h2, h3, h4, h5, h6⟩ := order_at p (i' :: dn) _ st i r h.2
    simp only [List.mem_cons, not_or] at h4
    refine ⟨o, h1, h2, fun j hj => ?_, h4.2, by simp only [List.map_cons, List.mem_cons, not_or]; exact ⟨h4.1, h5⟩, h6⟩
    rcases h3 j hj with h | h
    · rcases List.mem_cons.1 h with h | h
      · exact .inr (by simp [h])
      · exact .inl h
    · exact .inr (by simp only [List.map_cons, List.mem_cons]; exact .inr h)

/-- of two in the order of the walk the later one is none that the earlier one waits for -/
def Rel (ops : Array Oper) (cl : List (List Nat)) (p q : Nat) : Prop := q ∉ cl.getD p [] ∧ q ≠ p ∧ ∀ o, ops[p]? = some o → q ∉ direct o

theorem order_pair {cl : List (List Nat)} (hcl : clOk ops cl = true) : ∀ (pi : List (Bool × Nat)) (dn : List Nat) (l : Option Nat), Down ops (· ∈ dn) → orderOk ops cl dn l pi = true →
    (pi.map (·.2)).Pairwise (Rel ops cl) ∧ ∀ q ∈ pi.map (·.2), q ∉ dn
  | [], _, _, _, _ => ⟨by simp, by simp⟩
  | (st, i) :: pi, dn, l, hD, h => by
    obtain ⟨o, ho, _, hd, hi, _, _⟩ := order_at [] dn l st i pi h
    have hd' : ∀ j ∈ direct o, j ∈ dn := fun j hj => by simpa using hd j hj
    simp only [orderOk, Bool.and_eq_true] at h
    have hD' : Down ops (· ∈ i :: dn) := by
      intro k x hx hk j hj
      rcases List.mem_cons.1 hk with hk | hk
      · subst hk
        rw [ho] at hx; injection hx with hx; subst hx
        exact List.mem_cons_of_mem _ (hd' j hj)
      · exact List.mem_cons_of_mem _ (hD k x hx hk j hj)
    obtain ⟨h1, h2⟩ := order_pair hcl pi (i :: dn) _ hD' h.2
    refine ⟨?_, fun q hq => ?_⟩
    · simp only [List.map_cons, List.pairwise_cons]
      refine ⟨fun q hq => ?_, h1⟩
      have h3 := h2 q hq
      simp only [List.mem_cons, not_or] at h3
      refine ⟨fun hc => h3.2 (cl_down hcl hD i i o (Nat.le_refl _) ho hd' q hc), h3.1, fun x hx hc => ?_⟩
      rw [ho] at hx; injection hx with hx; subst hx
      exact h3.2 (hd' q hc)
    · simp only [List.map_cons, List.mem_cons] at hq
      rcases hq with hq | hq
      · exact hq ▸ hi
      · have := h2 q hq
        simp only [List.mem_cons, not_or] at this
        exact this.2

theorem far_of {cl : List (List Nat)} (ht : tmpsOk ops cl = true) {i j : Nat} (hne : i ≠ j) (h1 : j ∉ cl.getD i []) (h2 : i ∉ cl.getD j []) : Far ops i j := by
  intro x y hx hy
  have hi : i < ops.size := (Array.getElem?_eq_some_iff.1 hx).1
  have hj : j < ops.size := (Array.getElem?_eq_some_iff.1 hy).1
  have a1 := List.all_eq_true.1 (List.all_eq_true.1 ht i (by simpa using hi)) j (by simpa using hj)
  have a2 := List.all_eq_true.1 (List.all_eq_true.1 ht j (by simpa using hj)) i (by simpa using hi)
  have n1 : (cl.getD i []).contains j = false := by simpa using h1
  have n2 : (cl.getD j []).contains i = false := by simpa using h2
  have e1 : (i == j) = false := by simpa using hne
  have e2 : (j == i) = false := by simpa using (fun e => hne e.symm)
  simp only [hx, hy, n1, n2, e1, e2, Bool.false_or, Bool.or_false, Bool.not_eq_true'] at a1 a2
  exact ⟨a1, a2⟩

theorem upon_mono_far {o : Oper} {a b : Act} {w : World} {K K' : Act → World → Prop} {Q : Exit → Act → World → Prop}
    (hex : execOp a.eval o = execOp b.eval o) (h : o.wp P b w (fun b' w' => (∃ v, b' = b.put o.dst v) ∧ K b' w') (fun _ _ _ => False))
    (hk : ∀ v w', K (b.put o.dst v) w' → K' (a.put o.dst v) w') : o.wp P a w K' Q := by
  unfold Oper.wp at *
  rw [hex]
  generalize (execOp b.eval o).run P w = r at *
  cases r with
  | ok n w' =>
    cases n
    case value v => exact hk _ _ h.2
    case skip => exact hk _ _ h.2
    case enter f args =>
      exact Calls.mono h (fun e w'' he => by
        cases e with
        | returned v => exact hk _ _ he.2
        | panicked c => exact he.elim
        | outgrown => obtain ⟨_, _, he⟩ := he; exact he.elim)
    case row r args => exact Rows.mono h (fun _ _ he => hk _ _ he.2)
    all_goals first
      | (simp only [Oper.upon] at h; done)
      | (simp only [Oper.upon] at h
         obtain ⟨⟨v, hv⟩, _⟩ := h
         have := congrArg Act.defers hv
         cases hd : o.dst <;> simp [Act.put, hd] at this)
  | halt x w' =>
    cases x <;> simp only [Oper.upon] at h

theorem put_defers' (a : Act) (d : Option Tmp) (v : Value) : (a.put d v).defers = a.defers := by cases d <;> rfl
theorem puts_defers : ∀ (L : List (Nat × Value)) (a : Act), (puts ops L a).defers = a.defers
  | [], _ => rfl
  | (_, _) :: L, a => by simp only [puts]; rw [puts_defers L, put_defers']

/-- what is far from all that stands taken sees the same -/
theorem puts_exec {i : Nat} {o : Oper} (ho : ops[i]? = some o) (hso : isSelect o.op = false) : ∀ (L : List (Nat × Value)) (a : Act), (∀ p ∈ L, Far ops i p.1) →
    execOp (puts ops L a).eval o = execOp a.eval o ∧ Region.wanted o (yielded ops (puts ops L a).tmps) = Region.wanted o (yielded ops a.tmps)
  | [], _, _ => ⟨rfl, rfl⟩
  | (j, v) :: L, a, hf => by
    obtain ⟨h1, h2⟩ := puts_exec ho hso L (a.put ((ops[j]?).bind (·.dst)) v) (fun p hp => hf p (by simp [hp]))
    simp only [puts]
    rw [h1, h2]
    cases hj : ops[j]? with
    | none => exact ⟨rfl, rfl⟩
    | some x =>
      have hs' : ∀ cs b, o.op ≠ .select cs b := by intro cs b e; rw [e] at hso; simp [isSelect] at hso
      have h3 := (not_touches (hf (j, v) (by simp) o x ho hj).1).1
      simp only [Option.bind_some]
      exact ⟨execOp_put (ops := ops) o hs' a x.dst v h3, wanted_put o a x.dst v h3⟩

theorem sim {Q : Exit → Act → World → Prop} {pi : List (Bool × Nat)} {cl : List (List Nat)} (hr : ∀ w, R w w) (ht : ∀ a b c, R a b → R b c → R a c)
    (hcl : clOk ops cl = true) (htm : tmpsOk ops cl = true) (hall : ∀ i, i < ops.size → i ∈ pi.map (·.2)) (hord : orderOk ops cl [] none pi = true) :
    ∀ (fuel : Nat) (listed : Array Bool) (L : List (Nat × Value)) (c r : List (Bool × Nat)) (a : Act) (w : World), pi = c ++ r → (L.map (·.1)).Sublist (c.map (·.2)) →
      (∀ i, i < ops.size → (listed.getD i true = true ↔ i ∈ c.map (·.2) ∧ i ∉ L.map (·.1))) → listed.size = ops.size → Down ops (fun j => listed.getD j false = true) → L.length + r.length ≤ fuel →
      Pend P ops R L a w → wpE P ops R (Q .normal) r (puts ops L a) w → wpAny P .any ops Q fuel listed a w := by
  have hnil : Down ops (· ∈ ([] : List Nat)) := fun _ _ _ h => by simp at h
  obtain ⟨hpair, _⟩ := order_pair hcl pi [] none hnil hord
  have hinf : ∀ i ∈ pi.map (·.2), ∃ o, ops[i]? = some o ∧ isSelect o.op = false := by
    intro i hi
    obtain ⟨⟨st, i'⟩, hp, rfl⟩ := List.mem_map.1 hi
    obtain ⟨A, B, hAB⟩ := List.append_of_mem hp
    obtain ⟨o, h1, h2, _⟩ := order_at A [] none st i' B (hAB ▸ hord)
    exact ⟨o, h1, h2⟩
  -- the directs of what stands at a place lie ahead of it
  have hahead : ∀ (A B : List (Bool × Nat)) (st : Bool) (i : Nat), pi = A ++ (st, i) :: B → ∃ o, ops[i]? = some o ∧ isSelect o.op = false ∧ (∀ j ∈ direct o, j ∈ A.map (·.2)) ∧ i ∉ A.map (·.2) ∧ (∀ k, lastOf none A = some k → k ∈ cl.getD i []) := by
    intro A B st i hAB
    obtain ⟨o, h1, h2, h3, _, h5, h6⟩ := order_at A [] none st i B (hAB ▸ hord)
    exact ⟨o, h1, h2, fun j hj => (h3 j hj).resolve_left (by simp), h5, h6⟩
  intro fuel
  induction fuel with
  | zero =>
    intro listed L c r a w hpi hsub hlist hls hDn hlen hp he
    have hL : L = [] := List.eq_nil_of_length_eq_zero (by omega)
    have hrr : r = [] := List.eq_nil_of_length_eq_zero (by omega)
    subst hL; subst hrr
    refine ⟨?_, he⟩
    simp only [Region.ready, List.filter_eq_nil_iff, List.mem_range]
    intro i hi
    have : listed.getD i true = true := (hlist i hi).2 ⟨by have := hall i hi; rw [hpi] at this; simpa using this, by simp⟩
    simp only [this, Bool.not_true, Bool.false_and, Bool.false_eq_true, not_false_eq_true]
  | succ fuel ih =>
    intro listed L c r a w hpi hsub hlist hls hDn hlen hp he
    have hmem_ready : ∀ i, i ∈ Region.ready .any ops listed ↔ i < ops.size ∧ listed.getD i true = false ∧ ∀ o, ops[i]? = some o → ∀ j ∈ direct o, listed.getD j false = true := by
      intro i
      simp only [Region.ready, List.mem_filter, List.mem_range, Bool.and_eq_true, Bool.not_eq_true']
      constructor
      · rintro ⟨h1, h2, h3⟩
        refine ⟨h1, h2, fun o ho j hj => ?_⟩
        simp only [ho, Option.map_some, Option.getD_some, Array.all_eq_true', Bool.or_eq_true, Bool.not_eq_true'] at h3
        simp only [direct, List.mem_map, List.mem_filter] at hj
        obtain ⟨e, ⟨he1, he2⟩, rfl⟩ := hj
        have := h3 e (by simpa using he1)
        rw [he2] at this
        simpa using this
      · rintro ⟨h1, h2, h3⟩
        refine ⟨h1, h2, ?_⟩
        have ho : ops[i]? = some ops[i] := by simp [h1]
        simp only [ho, Option.map_some, Option.getD_some, Array.all_eq_true', Bool.or_eq_true, Bool.not_eq_true']
        intro e he
        cases hb : Region.binds .any e with
        | false => exact .inl rfl
        | true => exact .inr (h3 _ ho e.on (by simp only [direct, List.mem_map, List.mem_filter]; exact ⟨e, ⟨by simpa using he, hb⟩, rfl⟩))
    have hget : ∀ j, j < ops.size → listed.getD j false = listed.getD j true := by
      intro j hj
      simp [Array.getD, hls, hj]
    have hlt : ∀ i ∈ pi.map (·.2), i < ops.size := fun i hi => by
      obtain ⟨o, ho, _⟩ := hinf i hi
      exact (Array.getElem?_eq_some_iff.1 ho).1
    have hcpi : ∀ i ∈ c.map (·.2), i ∈ pi.map (·.2) := fun i hi => by rw [hpi]; simp only [List.map_append, List.mem_append]; exact .inl hi
    have hLpi : ∀ i ∈ L.map (·.1), i ∈ pi.map (·.2) := fun i hi => hcpi i (hsub.subset hi)
    have hDown : Down ops (fun i => i ∈ c.map (·.2)) := by
      intro i o ho hi j hj
      obtain ⟨⟨st, i'⟩, hpm, rfl⟩ := List.mem_map.1 hi
      obtain ⟨A, B, hAB⟩ := List.append_of_mem hpm
      obtain ⟨o', h1, _, h3, _⟩ := hahead A (B ++ r) st i' (by rw [hpi, hAB]; simp)
      rw [ho] at h1; injection h1 with h1; subst h1
      rw [hAB]
      simp only [List.map_append, List.mem_append]
      exact .inl (h3 j hj)
    refine ⟨fun hnone => ?_, ?_⟩
    · -- nothing may come up: all is done
      cases L with
      | nil =>
        cases r with
        | nil => exact he
        | cons x r =>
          exfalso
          obtain ⟨st, i⟩ := x
          obtain ⟨o, h1, _, h3, h4, _⟩ := hahead c r st i hpi
          have hi : i < ops.size := (Array.getElem?_eq_some_iff.1 h1).1
          have : i ∈ Region.ready .any ops listed := (hmem_ready i).2 ⟨hi, by
            have := hlist i hi
            cases hg : listed.getD i true with
            | false => rfl
            | true => exact absurd (this.1 hg).1 h4, fun o' ho' j hj => by
            rw [h1] at ho'; injection ho' with ho'; subst ho'
            have hjc := h3 j hj
            have hjl := hlt j (hcpi j hjc)
            rw [hget j hjl]
            exact (hlist j hjl).2 ⟨hjc, by simp⟩⟩
          rw [hnone] at this
          simp at this
      | cons x L =>
        exfalso
        obtain ⟨i, v⟩ := x
        have hic : i ∈ c.map (·.2) := hsub.subset (by simp)
        obtain ⟨o, h1, _⟩ := hinf i (hcpi i hic)
        have hi : i < ops.size := (Array.getElem?_eq_some_iff.1 h1).1
        have hpl : (((i, v) :: L).map (·.1)).Pairwise (Rel ops cl) := (hpair.sublist (by rw [hpi]; simp only [List.map_append]; exact List.sublist_append_left _ _)).sublist hsub
        simp only [List.map_cons, List.pairwise_cons] at hpl
        have : i ∈ Region.ready .any ops listed := (hmem_ready i).2 ⟨hi, by
          have := hlist i hi
          cases hg : listed.getD i true with
          | false => rfl
          | true => exact absurd (by simp) (this.1 hg).2, fun o' ho' j hj => by
          have hjc := hDown i o' ho' hic j hj
          have hjl := hlt j (hcpi j hjc)
          rw [hget j hjl]
          refine (hlist j hjl).2 ⟨hjc, fun hjL => ?_⟩
          simp only [List.map_cons, List.mem_cons] at hjL
          rcases hjL with hjL | hjL
          · subst hjL
            obtain ⟨⟨st, i'⟩, hpm, hpe⟩ := List.mem_map.1 hic
            simp only at hpe
            subst hpe
            obtain ⟨A, B, hAB⟩ := List.append_of_mem hpm
            obtain ⟨o2, k1, _, k3, k4, _⟩ := hahead A (B ++ r) st i' (by rw [hpi, hAB]; simp)
            rw [ho'] at k1; injection k1 with k1; subst k1
            exact k4 (k3 _ hj)
          · exact (hpl.1 j hjL).2.2 o' ho' hj⟩
        rw [hnone] at this
        simp at this
    · intro i hi
      obtain ⟨hin, hun, hdir⟩ := (hmem_ready i).1 hi
      obtain ⟨o, ho, hso⟩ := hinf i (hall i hin)
      -- what is listed
      have hcl_i : ∀ j ∈ cl.getD i [], listed.getD j false = true := cl_down hcl hDn i i o (Nat.le_refl _) ho (hdir o ho)
      have hDn' : Down ops (fun j => (listed.setIfInBounds i true).getD j false = true) := by
        have hset : ∀ j, (listed.setIfInBounds i true).getD j false = if j = i then true else listed.getD j false := by
          intro j
          by_cases hji : j = i
          · subst hji; simp [Array.getD, hls, hin]
          · rw [if_neg hji]; simp only [Array.getD, Array.size_setIfInBounds]
            split
            · exact Array.getElem_setIfInBounds_ne _ (Ne.symm hji)
            · rfl
        intro k x hx hk j hj
        rw [hset] at hk ⊢
        by_cases hji : j = i
        · simp [hji]
        · rw [if_neg hji]
          by_cases hki : k = i
          · subst hki
            rw [ho] at hx; injection hx with hx; subst hx
            exact hdir o ho j hj
          · rw [if_neg hki] at hk
            exact hDn k x hx hk j hj
      have hsize' : (listed.setIfInBounds i true).size = ops.size := by simp [hls]
      have hset : ∀ j, (listed.setIfInBounds i true).getD j true = if j = i then true else listed.getD j true := by
        intro j
        by_cases hji : j = i
        · subst hji; simp [Array.getD, hls, hin]
        · rw [if_neg hji]; simp only [Array.getD, Array.size_setIfInBounds]
          split
          · exact Array.getElem_setIfInBounds_ne _ (Ne.symm hji)
          · rfl
      -- i stands taken
      have caseA : ∀ (L : List (Nat × Value)) (c r : List (Bool × Nat)), pi = c ++ r → (L.map (·.1)).Sublist (c.map (·.2)) →
          (∀ i, i < ops.size → (listed.getD i true = true ↔ i ∈ c.map (·.2) ∧ i ∉ L.map (·.1))) → L.length + r.length ≤ fuel + 1 →
          Pend P ops R L a w → wpE P ops R (Q .normal) r (puts ops L a) w → i ∈ L.map (·.1) → wpOp P ops Q i (wpAny P .any ops Q fuel (listed.setIfInBounds i true)) a w := by
        intro L c r hpi hsub hlist hlen hp he hiL
        obtain ⟨⟨i', v⟩, hm, hie⟩ := List.mem_map.1 hiL
        simp only at hie
        subst hie
        obtain ⟨L1, L2, hLe⟩ := List.append_of_mem hm
        subst hLe
        have hpl : ((L1 ++ (i', v) :: L2).map (·.1)).Pairwise (Rel ops cl) := (hpair.sublist (by rw [hpi]; simp only [List.map_append]; exact List.sublist_append_left _ _)).sublist hsub
        have hpl' := hpl
        simp only [List.map_append, List.map_cons, List.pairwise_append, List.pairwise_cons] at hpl
        obtain ⟨_, ⟨hafter, _⟩, hcross⟩ := hpl
        have hfar : ∀ p ∈ L1, Far ops i' p.1 ∧ ∀ x, ops[p.1]? = some x → isSelect x.op = false := by
          intro p hpm
          have hrel := hcross p.1 (List.mem_map.2 ⟨p, hpm, rfl⟩) i' (by simp)
          have hpL : p.1 ∈ (L1 ++ (i', v) :: L2).map (·.1) := List.mem_map.2 ⟨p, by simp [hpm], rfl⟩
          have hpc : p.1 ∈ pi.map (·.2) := by rw [hpi]; simp only [List.map_append, List.mem_append]; exact .inl (hsub.subset hpL)
          refine ⟨far_of htm hrel.2.1 (fun hc => ?_) hrel.1, fun x hx => ?_⟩
          · have h1 := hcl_i p.1 hc
            rw [hget p.1 (hlt _ hpc)] at h1
            exact ((hlist p.1 (hlt _ hpc)).1 h1).2 hpL
          · obtain ⟨x', hx', hs'⟩ := hinf p.1 hpc
            rw [hx] at hx'; injection hx' with hx'; subst hx'
            exact hs'
        obtain ⟨hy, hp', hpe⟩ := Pend.pick ho hso L2 L1 a w hfar hp
        have hnot : i' ∉ (L1 ++ L2).map (·.1) := by
          simp only [List.map_append, List.mem_append, not_or]
          refine ⟨fun hc => ?_, fun hc => ?_⟩
          · exact (hcross i' hc i' (by simp)).2.1 rfl
          · exact (hafter i' hc).2.1 rfl
        have hnext : wpAny P .any ops Q fuel (listed.setIfInBounds i' true) (a.put o.dst v) w := by
          refine ih _ (L1 ++ L2) c r _ w hpi ?_ ?_ hsize' hDn' ?_ hp' (by rw [hpe]; exact he)
          · refine List.Sublist.trans ?_ hsub
            simp
          · intro k hk
            rw [hset]
            by_cases hki : k = i'
            · subst hki
              simp only [if_true, true_iff]
              exact ⟨hsub.subset hiL, hnot⟩
            · rw [if_neg hki, hlist k hk]
              simp only [List.map_append, List.mem_append, List.map_cons, List.mem_cons, not_or, hki, not_false_eq_true, true_and]
          · simp only [List.length_append, List.length_cons] at hlen ⊢; omega
        unfold wpOp
        simp only [ho]
        rcases hy with ⟨h1, h2⟩ | ⟨h1, h2⟩
        · rw [if_pos h1]
          refine .inl ?_
          unfold Oper.wp
          rcases h2 w (hr w) with h3 | ⟨f, args, h3, h4⟩
          · rw [h3]
            exact hnext
          · rw [h3]
            refine h4.mono ?_
            rintro e w'' ⟨rfl, rfl⟩
            exact hnext
        · rw [if_neg (by rw [h1]; simp)]
          subst h2
          exact hnext
      by_cases hiL : i ∈ L.map (·.1)
      · exact caseA L c r hpi hsub hlist hlen hp he hiL
      · have hic : i ∉ c.map (·.2) := fun hc => by
          rw [(hlist i hin).2 ⟨hc, hiL⟩] at hun
          simp at hun
        have hir : i ∈ r.map (·.2) := by
          have := hall i hin
          rw [hpi] at this
          simp only [List.map_append, List.mem_append] at this
          exact this.resolve_left hic
        obtain ⟨⟨st, i'⟩, hm, hie⟩ := List.mem_map.1 hir
        simp only at hie
        subst hie
        obtain ⟨r1, r2, hre⟩ := List.append_of_mem hm
        subst hre
        obtain ⟨o', ho', _, _, hnA, hlast⟩ := hahead (c ++ r1) r2 st i' (by rw [hpi]; simp)
        have hpp := hpair
        rw [hpi] at hpp
        simp only [List.map_append, List.map_cons, List.pairwise_append, List.pairwise_cons, List.mem_append, List.mem_cons] at hpp
        obtain ⟨_, ⟨_, _, hr1⟩, hcr⟩ := hpp
        have hst1 : ∀ p ∈ r1, p.1 = true := by
          intro p hpm
          cases hp1 : p.1 with
          | true => rfl
          | false =>
            exfalso
            obtain ⟨k, hk1, hk2⟩ := lastOf_chain r1 (lastOf none c) ⟨p, hpm, hp1⟩
            have happ : ∀ (x y : List (Bool × Nat)) (l : Option Nat), lastOf l (x ++ y) = lastOf (lastOf l x) y := by
              intro x
              induction x with
              | nil => intro y l; rfl
              | cons q x ihx => intro y l; obtain ⟨s1, i1⟩ := q; simp only [List.cons_append, lastOf]; exact ihx y _
            have hk3 := hlast k (by rw [happ]; exact hk1)
            have hkl := hcl_i k hk3
            have hkn : k < ops.size := hlt k (by rw [hpi]; simp only [List.map_append, List.mem_append, List.map_cons, List.mem_cons]; exact .inr (.inl hk2))
            rw [hget k hkn] at hkl
            have hkc := ((hlist k hkn).1 hkl).1
            exact (hcr k hkc k (.inl hk2)).2.1 rfl
        cases st with
        | true =>
          obtain ⟨M, hM, hpM, heM⟩ := take_steady (P := P) (R := R) (r1 ++ [(true, i')]) r2 (puts ops L a) w (by
            intro p hpm
            rcases List.mem_append.1 hpm with h | h
            · exact hst1 p h
            · simp at h; simp [h]) (by simpa using he)
          have hMl : M.length = r1.length + 1 := by have := congrArg List.length hM; simpa using this
          refine caseA (L ++ M) (c ++ (r1 ++ [(true, i')])) r2 (by rw [hpi]; simp) ?_ ?_ ?_ (Pend.append L M a w hp hpM) (by rw [puts_append]; exact heM) ?_
          · rw [List.map_append, List.map_append, hM]
            exact List.Sublist.append hsub (List.Sublist.refl _)
          · intro k hk
            rw [hlist k hk]
            simp only [List.map_append, List.mem_append, hM]
            constructor
            · rintro ⟨h1, h2⟩
              refine ⟨.inl h1, fun h3 => ?_⟩
              rcases h3 with h3 | h3
              · exact h2 h3
              · rcases h3 with h3 | h3
                · exact (hcr k h1 k (.inl h3)).2.1 rfl
                · simp at h3; subst h3; exact hic h1
            · rintro ⟨h1, h2⟩
              simp only [not_or] at h2
              exact ⟨h1.resolve_right (fun h => h.elim h2.2.1 h2.2.2), h2.1⟩
          · simp only [List.length_append, List.length_cons] at hlen ⊢; omega
          · rw [List.map_append, hM]; simp
        | false =>
          obtain ⟨M, hM, hpM, heM⟩ := take_steady (P := P) (R := R) r1 ((false, i') :: r2) (puts ops L a) w hst1 he
          have hMl : M.length = r1.length := by have := congrArg List.length hM; simpa using this
          have hpLM := Pend.append L M a w hp hpM
          have hLMsub : ((L ++ M).map (·.1)).Sublist ((c ++ r1).map (·.2)) := by
            rw [List.map_append, List.map_append, hM]
            exact List.Sublist.append hsub (List.Sublist.refl _)
          rw [← puts_append] at heM
          have hfar : ∀ p ∈ L ++ M, Far ops i' p.1 ∧ ∀ x, ops[p.1]? = some x → isSelect x.op = false := by
            intro p hpm
            have hpc : p.1 ∈ (c ++ r1).map (·.2) := hLMsub.subset (List.mem_map.2 ⟨p, hpm, rfl⟩)
            have hpc2 : p.1 ∈ pi.map (·.2) := by
              rw [hpi]; simp only [List.map_append, List.mem_append, List.map_cons, List.mem_cons] at hpc ⊢
              rcases hpc with h | h
              · exact .inl h
              · exact .inr (.inl h)
            have hrel : Rel ops cl p.1 i' := by
              simp only [List.map_append, List.mem_append] at hpc
              rcases hpc with h | h
              · exact hcr p.1 h i' (.inr (.inl rfl))
              · exact hr1 p.1 h i' (.inl rfl)
            refine ⟨far_of htm hrel.2.1 (fun hc => ?_) hrel.1, fun x hx => ?_⟩
            · have h1 := hcl_i p.1 hc
              rw [hget p.1 (hlt _ hpc2)] at h1
              have h2 := (hlist p.1 (hlt _ hpc2)).1 h1
              rcases List.mem_append.1 hpm with h | h
              · exact h2.2 (List.mem_map.2 ⟨p, h, rfl⟩)
              · have h3 : p.1 ∈ r1.map (·.2) := by rw [← hM]; exact List.mem_map.2 ⟨p, h, rfl⟩
                exact (hcr p.1 h2.1 p.1 (.inl h3)).2.1 rfl
            · obtain ⟨x', hx', hs'⟩ := hinf p.1 hpc2
              rw [hx] at hx'; injection hx' with hx'; subst hx'
              exact hs'
          obtain ⟨hex, hwa⟩ := puts_exec ho hso (L ++ M) a (fun p hpm => (hfar p hpm).1)
          have hnext : ∀ v w', R w w' → wpE P ops R (Q .normal) r2 ((puts ops (L ++ M) a).put o.dst v) w' → wpAny P .any ops Q fuel (listed.setIfInBounds i' true) (a.put o.dst v) w' := by
            intro v w' hrw he'
            obtain ⟨hpf, hpe⟩ := Pend.far ho v (L ++ M) a w hfar hpLM
            refine ih _ (L ++ M) (c ++ r1 ++ [(false, i')]) r2 _ w' (by rw [hpi]; simp) ?_ ?_ hsize' hDn' ?_ (hpf.later ht hrw) (by rw [hpe]; exact he')
            · rw [List.map_append (l₂ := [(false, i')])]
              exact hLMsub.trans (List.sublist_append_left _ _)
            · intro k hk
              rw [hset]
              by_cases hki : k = i'
              · subst hki
                simp only [if_true, true_iff]
                exact ⟨by simp, fun h => hnA (hLMsub.subset h)⟩
              · rw [if_neg hki, hlist k hk]
                simp only [List.map_append, List.mem_append, hM, List.map_cons, List.map_nil, List.mem_cons, List.not_mem_nil, or_false, hki]
                constructor
                · rintro ⟨h1, h2⟩
                  exact ⟨.inl h1, fun h3 => h3.elim h2 (fun h3 => (hcr k h1 k (.inl h3)).2.1 rfl)⟩
                · rintro ⟨h1, h2⟩
                  simp only [not_or] at h2
                  exact ⟨h1.resolve_right h2.2, h2.1⟩
            · simp only [List.length_append, List.length_cons] at hlen ⊢; omega
          simp only [wpE, ho] at heM
          unfold wpOp
          simp only [ho]
          by_cases hw : Region.wanted o (yielded ops a.tmps) = true
          · rw [if_pos (by rw [hwa]; exact hw), if_neg (by simp)] at heM
            rw [if_pos hw]
            refine .inl (upon_mono_far (K := fun a' w' => R w w' ∧ wpE P ops R (Q .normal) r2 a' w') hex.symm ?_ (fun v w' hk => hnext v w' hk.1 hk.2))
            exact Oper.wp_mono (fun a' w' h => ⟨h.2.1, h.1, h.2.2⟩) heM
          · rw [if_neg (by rw [hwa]; exact hw)] at heM
            rw [if_neg hw]
            exact hnext undef w (hr w) heM

/-- A REGION THAT DRAWS ITS ORDER, WALKED IN ONE ORDER: 'pi' lists its operations, each marked 'true' (steady: its value is the same in every world from there on) or 'false' (one of the chain). -/
theorem wp_region_one {id : Nat} {Q : Exit → Act → World → Prop} {a : Act} {w : World} (R : World → World → Prop) (pi : List (Bool × Nat)) (hr : ∀ w, R w w) (ht : ∀ a b c, R a b → R b c → R a c)
    (hm : P.follows .mixedOrders = true) (hck : check ops pi = true) (h : wpE P ops R (Q .normal) pi a w.drew) : (Code.region id ops true).wp P Q a w := by
  simp only [check, Bool.and_eq_true, List.all_eq_true, List.mem_range, List.contains_eq_mem, decide_eq_true_eq] at hck
  obtain ⟨⟨⟨⟨h0, h1⟩, h2⟩, h3⟩, h4⟩ := hck
  refine wp_region_any hm (sim (pi := pi) hr ht h1 h2 h3 h4 ops.size _ [] [] pi a _ rfl (by simp) ?_ (by simp) ?_ ?_ trivial h)
  · intro i hi
    simp [Array.getD, hi]
  · intro i o ho hd
    have hi : i < ops.size := (Array.getElem?_eq_some_iff.1 ho).1
    simp [Array.getD, hi] at hd
  · simpa using h0

/-- all that was there stands as it was -/
def Ext (w w' : World) : Prop := RowKit.Below w.heap.size w w'
theorem Ext.refl (w : World) : Ext w w := RowKit.Below.refl _ _
theorem Ext.trans {a b c : World} (h : Ext a b) (k : Ext b c) : Ext a c := RowKit.Below.trans h (k.mono h.size)
theorem Ext.alloc {a w : World} (h : Ext a w) (o : Obj) : Ext a (w.alloc o) := RowKit.Below.alloc h h.size o
theorem Ext.drew {a w : World} (h : Ext a w) : Ext a w.drew := RowKit.Below.drew h
theorem Ext.setCell {a w : World} (h : Ext a w) {p : Addr} (hp : a.heap.size ≤ p.block) (u : Value) : Ext a (w.setCell p u) := RowKit.Below.setCell h hp u
theorem Ext.below {w w' : World} (h : Ext w w') {B : Nat} (hB : B ≤ w.heap.size) : RowKit.Below B w w' := h.mono hB
theorem Ext.drewL {a w : World} (h : Ext a w) : Ext a.drew w := ⟨h.os, h.tape, h.output, h.size, h.block⟩
theorem Ext.size_le {w w' : World} (h : Ext w w') : w.heap.size ≤ w'.heap.size := h.size
theorem Ext.cell {w w' : World} (h : Ext w w') (b o : Nat) (hc : (w.cell? ⟨b, o, none⟩).isSome = true) : w'.cell? ⟨b, o, none⟩ = w.cell? ⟨b, o, none⟩ := by
  refine RowKit.Below.cell h ?_
  show b < w.heap.size
  rcases Nat.lt_or_ge b w.heap.size with hlt | hge
  · exact hlt
  · simp [World.cell?, Array.getElem?_eq_none hge] at hc

/-- the operations in the order of the walk, written out -/
def pick (ops : Array Oper) (pi : List (Bool × Nat)) : List (Bool × Oper) := pi.filterMap fun p => (ops[p.2]?).map (p.1, ·)

def wpLr (P : Program) (ops : Array Oper) (R : World → World → Prop) (Q : Act → World → Prop) : List (Bool × Oper) → Act → World → Prop
  | [], a, w => Q a w
  | (st, o) :: rest, a, w =>
    if Region.wanted o (yielded ops a.tmps) = true then
      if st = true then ∃ v, (∀ w', R w w' → Runs P o a v w') ∧ wpLr P ops R Q rest (a.put o.dst v) w
      else o.wp P a w (fun a' w' => R w w' ∧ (∃ v, a' = a.put o.dst v) ∧ wpLr P ops R Q rest a' w') (fun _ _ _ => False)
    else wpLr P ops R Q rest (a.put o.dst undef) w

theorem wpE_of_wpLr {Q : Act → World → Prop} : ∀ (pi : List (Bool × Nat)) (a : Act) (w : World), (∀ p ∈ pi, p.2 < ops.size) → wpLr P ops R Q (pick ops pi) a w → wpE P ops R Q pi a w
  | [], _, _, _, h => h
  | (st, i) :: pi, a, w, hp, h => by
    have hi : i < ops.size := hp (st, i) (by simp)
    have ho : ops[i]? = some ops[i] := by simp [hi]
    have ih := fun a w => wpE_of_wpLr (Q := Q) pi a w (fun p h => hp p (by simp [h]))
    simp only [pick, List.filterMap_cons, ho, Option.map_some, wpLr] at h
    simp only [wpE, ho]
    by_cases hw : Region.wanted ops[i] (yielded ops a.tmps) = true
    · rw [if_pos hw] at h ⊢
      cases st with
      | true =>
        rw [if_pos rfl] at h ⊢
        obtain ⟨v, h1, h2⟩ := h
        exact ⟨v, h1, ih _ _ h2⟩
      | false =>
        rw [if_neg (by simp)] at h ⊢
        exact Oper.wp_mono (fun a' w' h => ⟨h.1, h.2.1, ih _ _ h.2.2⟩) h
    · rw [if_neg hw] at h ⊢
      exact ih _ _ h

theorem wp_region_R {id : Nat} {Q : Exit → Act → World → Prop} {a : Act} {w : World} (R : World → World → Prop) (hr : ∀ w, R w w) (ht : ∀ a b c, R a b → R b c → R a c) (pi : List (Bool × Nat)) {l : List (Bool × Oper)}
    (hm : P.follows .mixedOrders = true) (hck : check ops pi = true) (hl : pick ops pi = l) (h : wpLr P ops R (Q .normal) l a w.drew) : (Code.region id ops true).wp P Q a w := by
  refine wp_region_one R pi hr ht hm hck (wpE_of_wpLr pi a _ ?_ (hl ▸ h))
  simp only [check, Bool.and_eq_true, List.all_eq_true, List.mem_range, List.contains_eq_mem, decide_eq_true_eq] at hck
  obtain ⟨⟨⟨⟨_, _⟩, _⟩, _⟩, h4⟩ := hck
  intro p hp
  obtain ⟨A, B, hAB⟩ := List.append_of_mem hp
  obtain ⟨o, h1, _⟩ := order_at A [] none p.1 p.2 B (hAB ▸ h4)
  exact (Array.getElem?_eq_some_iff.1 h1).1

theorem Ext.froz {w w' : World} (h : Ext w w') (b o : Nat) (hc : (w.cell? ⟨b, o, none⟩).isSome = true) : w'.frozen? ⟨b, o, none⟩ = w.frozen? ⟨b, o, none⟩ := by
  refine RowKit.Below.frozen h ?_
  show b < w.heap.size
  rcases Nat.lt_or_ge b w.heap.size with hlt | hge
  · exact hlt
  · simp [World.cell?, Array.getElem?_eq_none hge] at hc

/-- the same, shut: so that no tactic unfolds it on the way -/
structure wpL (P : Program) (ops : Array Oper) (R : World → World → Prop) (Q : Act → World → Prop) (l : List (Bool × Oper)) (a : Act) (w : World) : Prop where
  out : wpLr P ops R Q l a w

theorem wp_region_ext {id : Nat} {Q : Exit → Act → World → Prop} {a : Act} {w : World} (pi : List (Bool × Nat)) {l : List (Bool × Oper)}
    (hm : P.follows .mixedOrders = true) (hck : check ops pi = true) (hl : pick ops pi = l) (h : Ext w.drew w.drew → wpL P ops Ext (Q .normal) l a w.drew) : (Code.region id ops true).wp P Q a w :=
  wp_region_R Ext Ext.refl (fun _ _ _ => Ext.trans) pi hm hck hl (h (Ext.refl _)).out

/-- all that was there stands as it was, but for the blocks that S names -/
structure But (S : List Nat) (w w' : World) : Prop where
  os : w'.os = w.os
  tape : w'.tape = w.tape
  output : w'.output = w.output
  size : w.heap.size ≤ w'.heap.size
  block : ∀ k, k < w.heap.size → k ∉ S → w'.heap[k]? = w.heap[k]?
theorem But.refl (S : List Nat) (w : World) : But S w w := ⟨rfl, rfl, rfl, Nat.le_refl _, fun _ _ _ => rfl⟩
theorem But.trans {S : List Nat} {a b c : World} (h : But S a b) (k : But S b c) : But S a c :=
  ⟨k.os.trans h.os, k.tape.trans h.tape, k.output.trans h.output, Nat.le_trans h.size k.size, fun i hi hs => (k.block i (Nat.lt_of_lt_of_le hi h.size) hs).trans (h.block i hi hs)⟩
theorem But.cell {S : List Nat} {w w' : World} (h : But S w w') (b o : Nat) (hb : b ∉ S) (hc : (w.cell? ⟨b, o, none⟩).isSome = true) : w'.cell? ⟨b, o, none⟩ = w.cell? ⟨b, o, none⟩ := by
  refine World.cell?_of_block (w := w) (h.block b ?_ hb)
  rcases Nat.lt_or_ge b w.heap.size with hlt | hge
  · exact hlt
  · simp [World.cell?, Array.getElem?_eq_none hge] at hc
theorem But.alloc {S : List Nat} {a w : World} (h : But S a w) (o : Obj) : But S a (w.alloc o) :=
  h.trans ⟨rfl, rfl, rfl, by simp, fun k hk _ => RowKit.Below.heap_alloc _ _ _ hk⟩
theorem But.drew {S : List Nat} {a w : World} (h : But S a w) : But S a w.drew := ⟨h.os, h.tape, h.output, h.size, h.block⟩
theorem But.drewL {S : List Nat} {a w : World} (h : But S a w) : But S a.drew w := ⟨h.os, h.tape, h.output, h.size, h.block⟩
theorem But.setCell {S : List Nat} {a w : World} (h : But S a w) {p : Addr} (hp : p.block ∈ S) (u : Value) : But S a (w.setCell p u) :=
  h.trans ⟨rfl, rfl, rfl, by simp [World.setCell], fun k _ hk => RowKit.Below.heap_setCell _ _ _ _ (fun e => hk (e ▸ hp))⟩
theorem But.allocL {S : List Nat} {a w : World} (h : But S a w) {o : Obj} (hs : a.heap.size ∈ S) (hz : (a.alloc o).heap.size ≤ w.heap.size) : But S (a.alloc o) w :=
  ⟨h.os, h.tape, h.output, hz, fun k hk hn => by
    have hne : k ≠ a.heap.size := fun e => hn (e ▸ hs)
    have hlt : k < a.heap.size := by simp at hk; omega
    rw [RowKit.Below.heap_alloc _ _ _ hlt]
    exact h.block k hlt hn⟩
theorem But.setCellL {S : List Nat} {a w : World} (h : But S a w) {p : Addr} (hp : p.block ∈ S) {u : Value} : But S (a.setCell p u) w :=
  ⟨h.os, h.tape, h.output, by simpa [World.setCell] using h.size, fun k hk hn => by
    rw [show (a.setCell p u).heap[k]? = a.heap[k]? from RowKit.Below.heap_setCell a p u k (fun e => hn (e ▸ hp))]
    exact h.block k (by simpa [World.setCell] using hk) hn⟩
theorem But.alloc2 {S : List Nat} {a w : World} (h : But S a w) {o : Obj} (hz : w.heap.size = a.heap.size) : But S (a.alloc o) (w.alloc o) :=
  ⟨h.os, h.tape, h.output, by simp; omega, fun k hk hn => by
    simp at hk
    by_cases e : k = a.heap.size
    · subst e
      have h1 : (a.alloc o).heap[a.heap.size]? = some o := by show (a.heap.push o)[a.heap.size]? = _; simp
      have h2 : (w.alloc o).heap[a.heap.size]? = some o := by show (w.heap.push o)[a.heap.size]? = _; rw [← hz]; simp
      rw [h1, h2]
    · rw [RowKit.Below.heap_alloc _ _ _ (by omega), RowKit.Below.heap_alloc _ _ _ (by omega)]
      exact h.block k (by omega) hn⟩
theorem Ext.but {w w' : World} (h : Ext w w') (S : List Nat) : But S w w' := ⟨h.os, h.tape, h.output, h.size, fun k hk _ => h.block k hk⟩
theorem But.ext {S : List Nat} {a b c : World} (h : Ext a b) (k : But S b c) (hS : ∀ x ∈ S, a.heap.size ≤ x) : Ext a c :=
  ⟨k.os.trans h.os, k.tape.trans h.tape, k.output.trans h.output, Nat.le_trans h.size k.size, fun i hi => (k.block i (Nat.lt_of_lt_of_le hi h.size) (fun hm => by have := hS i hm; omega)).trans (h.block i hi)⟩

/-- where the region writes: what lies outside the blocks of S stands -/
theorem wp_region_but (S : List Nat) {id : Nat} {Q : Exit → Act → World → Prop} {a : Act} {w : World} (pi : List (Bool × Nat)) {l : List (Bool × Oper)}
    (hm : P.follows .mixedOrders = true) (hck : check ops pi = true) (hl : pick ops pi = l) (h : But S w.drew w.drew → Ext w.drew w.drew → wpL P ops (But S) (Q .normal) l a w.drew) : (Code.region id ops true).wp P Q a w :=
  wp_region_R (But S) (But.refl S) (fun _ _ _ => But.trans) pi hm hck hl (h (But.refl _ _) (Ext.refl _)).out

section
variable {Q : Act → World → Prop} {a : Act} {w : World} {rest : List (Bool × Oper)} {o : Oper} {S : List Nat}
theorem wpL_takeB {W : World} (hx : But S W w) {v : Value} (hw : Region.wanted o (yielded ops a.tmps) = true)
    (hv : ∀ w', (∀ b f, b ∉ S → (W.cell? ⟨b, f, none⟩).isSome = true → w'.cell? ⟨b, f, none⟩ = W.cell? ⟨b, f, none⟩) → (execOp a.eval o).run P w' = .ok (.value v) w')
    (h : wpL P ops (But S) Q rest (a.put o.dst v) w) : wpL P ops (But S) Q ((true, o) :: rest) a w := by
  refine ⟨?_⟩
  simp only [wpLr]
  rw [if_pos hw, if_pos trivial]
  exact ⟨v, fun w' hr => .inl (hv w' (hx.trans hr).cell), h.out⟩

theorem wpL_quietB (f : FuncId) {args : Array Value} {v : Value} (hw : Region.wanted o (yielded ops a.tmps) = true)
    (hv : ∀ w', (execOp a.eval o).run P w' = .ok (.enter f args) w')
    (hq : ∀ w', Calls P f args w' fun e w'' => e = .returned v ∧ w' = w'')
    (h : wpL P ops (But S) Q rest (a.put o.dst v) w) : wpL P ops (But S) Q ((true, o) :: rest) a w := by
  refine ⟨?_⟩
  simp only [wpLr]
  rw [if_pos hw, if_pos trivial]
  exact ⟨v, fun w' _ => .inr ⟨f, args, hv w', hq w'⟩, h.out⟩
theorem wpL_end (h : Q a w) : wpL P ops R Q [] a w := ⟨h⟩

theorem wpL_take {W : World} (hx : Ext W w) {v : Value} (hw : Region.wanted o (yielded ops a.tmps) = true)
    (hv : ∀ w', (∀ b f, (W.cell? ⟨b, f, none⟩).isSome = true → w'.cell? ⟨b, f, none⟩ = W.cell? ⟨b, f, none⟩) → (execOp a.eval o).run P w' = .ok (.value v) w')
    (h : wpL P ops Ext Q rest (a.put o.dst v) w) : wpL P ops Ext Q ((true, o) :: rest) a w := by
  refine ⟨?_⟩
  simp only [wpLr]
  rw [if_pos hw, if_pos trivial]
  exact ⟨v, fun w' hr => .inl (hv w' (hx.trans hr).cell), h.out⟩

theorem wpL_quiet (f : FuncId) {args : Array Value} {v : Value} (hw : Region.wanted o (yielded ops a.tmps) = true)
    (hv : ∀ w', (execOp a.eval o).run P w' = .ok (.enter f args) w')
    (hq : ∀ w', Calls P f args w' fun e w'' => e = .returned v ∧ w' = w'')
    (h : wpL P ops Ext Q rest (a.put o.dst v) w) : wpL P ops Ext Q ((true, o) :: rest) a w := by
  refine ⟨?_⟩
  simp only [wpLr]
  rw [if_pos hw, if_pos trivial]
  exact ⟨v, fun w' _ => .inr ⟨f, args, hv w', hq w'⟩, h.out⟩

theorem wpL_skip {st : Bool} (hw : Region.wanted o (yielded ops a.tmps) = false) (h : wpL P ops R Q rest (a.put o.dst undef) w) : wpL P ops R Q ((st, o) :: rest) a w := by
  refine ⟨?_⟩
  simp only [wpLr]
  rw [if_neg (by rw [hw]; simp)]
  exact h.out

theorem wpL_call (hw : Region.wanted o (yielded ops a.tmps) = true)
    (h : ∀ K : Act → World → Prop, (∀ v w', R w w' → (R w w' → wpL P ops R Q rest (a.put o.dst v) w') → K (a.put o.dst v) w') → o.wp P a w K (fun _ _ _ => False)) : wpL P ops R Q ((false, o) :: rest) a w := by
  refine ⟨?_⟩
  simp only [wpLr]
  rw [if_pos hw, if_neg (by simp)]
  exact h _ fun v w' hr he => ⟨hr, ⟨v, rfl⟩, (he hr).out⟩
end

/-- one order to walk in: steady ones as soon as they may run, the others in the order of the text -/
def steadyOp (o : Op) : Bool :=
  match o with
  | .call { callee := .builtin .len, .. } | .call { callee := .builtin .cap, .. } => true
  | .call _ | .store .. | .alloc _ | .box .. | .buildSlice .. | .makeSlice .. | .mapUpdate .. | .makeMap .. | .insert .. | .go _ | .defer _ | .panic _ | .makeFunc .. | .entryStore .. => false
  | _ => true
def eagerGo (ops : Array Oper) : Nat → List (Bool × Nat) → List (Bool × Nat)
  | 0, acc => acc.reverse
  | n + 1, acc =>
    let dn := acc.map (·.2)
    let rs := (List.range ops.size).filter fun i => !dn.contains i && ((ops[i]?).map fun o => (direct o).all dn.contains).getD false
    match rs.find? fun i => ((ops[i]?).map fun o => steadyOp o.op).getD false with
    | some i => eagerGo ops n ((true, i) :: acc)
    | none => match rs with
      | i :: _ => eagerGo ops n ((false, i) :: acc)
      | [] => acc.reverse
def eager (ops : Array Oper) : List (Bool × Nat) := eagerGo ops ops.size []
end
end Go.Draw

namespace Go.Draw
open Go.RowKit Go.WideShapes Go.ChangeShapes
section
variable {H : Type} {enc : TypeId × Value → H} {P : Program}
/-- the row's last step where of the world behind the call only this is known: what was there stands -/
theorem post_of_ext {f : Func} {s : ChangeSpec} {apart fresh handsOn again : Bool} {W W' : World} {args : Array Value} {v : Value} {ds gs : List (DataW H)} {before pa pv : List MemPlace}
    (hW : DataW.Whole enc P f.params.toList s.vars apart W args.toList ds gs before)
    (hres : ∀ (b : Nat) (sp : Nat → Bool) (hd : Bool), DataW.TrodAll enc P W' b sp hd f.resultTypes.toList (v.resultList f.resultTypes.size) (s.fn H (ds ++ gs)).results [])
    (hargs : ∀ sp : Nat → Bool, (∀ p ∈ before, sp p.block = true) → DataW.TrodAll enc P W' 0 sp true f.params.toList args.toList (s.fn H (ds ++ gs)).args pa)
    (hvars : ∀ sp : Nat → Bool, (∀ p ∈ before, sp p.block = true) → DataW.TrodVars enc P W' sp s.vars (s.fn H (ds ++ gs)).vars pv)
    (hps : before = pa ++ pv) (hb : Ext W W')
    (hok : ∀ (j : Nat) (t : TypeId) (r : Value), f.resultTypes[j]? = some t → (v.resultList f.resultTypes.size)[j]? = some r → Value.okWide P W' .any 0 t r) :
    s.post enc P f apart fresh handsOn again W args v W' := by
  have hlt : ∀ p ∈ before, p.block < W.heap.size := fun p hp => hW.lt p hp
  have hold : ∀ p ∈ before, (fun b => decide (b < W.heap.size)) p.block = true := fun p hp => by simpa using hlt p hp
  refine ⟨ds, gs, before, [], pa, pv, hW, hres _ _ _, hargs _ hold, hvars _ hold, World.keptBut_mono (fun p hp => ⟨hp, ?_⟩) (Below.frame hb (· ∈ before)), fun _ => ?_⟩
  · rw [hps, List.mem_append] at hp
    exact Or.inr hp
  · obtain ⟨_, _, _, _, _, hz, hn⟩ := hW
    refine ⟨hok, _, _, ([] ++ pa) ++ pv, ⟨[] ++ pa, pv, trodAll_append (hargs _ (fun _ _ => rfl)) (hres _ _ _), hvars _ (fun _ _ => rfl), rfl, ?_, ?_⟩, ?_⟩
    · intro b off hp
      have hin : MemPlace.cell b off ∈ before := by rw [hps]; simpa using hp
      rw [Below.frozen hb (hlt _ hin)]
      exact hz b off hin
    · intro ha
      have := hn ha
      rw [hps] at this
      simpa using this
    · intro p hp _
      rw [hps]
      simpa using hp
end
end Go.Draw
