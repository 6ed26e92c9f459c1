/- The walks of Percent, of the presets and of their reference. Conditions: the ranges that each theorem states. -/
import Derived.Test.YtkioemeohofpcaaA
namespace Go.Proofs.Ytkioemeohofpcaa
open Go.RowKit Go.Draw

/-- the hundredth part -/
def pctW (p : Int) : Nat := match Ieee.double.div (FloatKind.f64.nearest p) 4636737291354636288 with | some r => r | none => 0
theorem pct_all : (List.range 101).all (fun k => (Ieee.double.div (FloatKind.f64.nearest (k : Int)) 4636737291354636288).isSome) = true := by decide +kernel
theorem pct_some {p : Int} (h0 : 0 ≤ p) (h1 : p ≤ 100) : Ieee.double.div (FloatKind.f64.nearest p) 4636737291354636288 = some (pctW p) := by
  obtain ⟨k, rfl⟩ : ∃ k : Nat, p = (k : Int) := ⟨p.toNat, by omega⟩
  have h := pct_all
  simp only [List.all_eq_true, List.mem_range] at h
  have := h k (by omega)
  obtain ⟨r, hr⟩ := Option.isSome_iff_exists.1 this
  unfold pctW
  rw [hr]
/-- the error of a percentage -/
def pctE (p : Int) : Int := if 0 ≤ p ∧ p ≤ 100 then 0 else 1
def pctX (p : Int) : Nat := if 0 ≤ p ∧ p ≤ 100 then pctW p else 0
theorem percent_any (p : Int) (w : World) : Calls Try.prog 15 #[.int .i64 p] w fun e w' => e = .returned (.tuple #[.float .f64 (pctX p), .int .i64 (pctE p)]) ∧ w = w' := by
  by_cases h0 : p < 0
  · have h1 : decide (p < 0) = true := by simpa using h0
    rw [show pctX p = 0 by unfold pctX; rw [if_neg (by omega)], show pctE p = 1 by unfold pctE; rw [if_neg (by omega)]]
    clear h0
    go_enter Try.func15, Try.ntmps15
    go_wp2
    go_ret2
    exact ⟨rfl, rfl⟩
  · have h1 : decide (p < 0) = false := by simpa using h0
    by_cases h2 : 100 < p
    · have h3 : decide (100 < p) = true := by simpa using h2
      rw [show pctX p = 0 by unfold pctX; rw [if_neg (by omega)], show pctE p = 1 by unfold pctE; rw [if_neg (by omega)]]
      clear h0 h2
      go_enter Try.func15, Try.ntmps15
      go_wp2
      go_ret2
      exact ⟨rfl, rfl⟩
    · have h3 : decide (100 < p) = false := by simpa using h2
      have hd : (binOp .quo 39 (.float .f64 (floatOfInt .f64 p)) (.float .f64 4636737291354636288)).run Try.prog w = .ok (.float .f64 (pctW p)) w := run_float_arith w .quo 39 .f64 _ _ _ (pct_some (by omega) (by omega))
      rw [show pctX p = pctW p by unfold pctX; rw [if_pos (by omega)], show pctE p = 0 by unfold pctE; rw [if_pos (by omega)]]
      clear h0 h2
      go_enter Try.func15, Try.ntmps15
      go_wp2
      go_ret2
      exact ⟨rfl, rfl⟩
theorem rpercent_any (p : Int) (w : World) : Calls Try.prog 17 #[.int .i64 p] w fun e w' => e = .returned (.tuple #[.float .f64 (pctX p), .int .i64 (pctE p)]) ∧ w = w' := by
  by_cases h0 : p < 0
  · have h1 : decide (p < 0) = true := by simpa using h0
    rw [show pctX p = 0 by unfold pctX; rw [if_neg (by omega)], show pctE p = 1 by unfold pctE; rw [if_neg (by omega)]]
    clear h0
    go_enter Try.func17, Try.ntmps17
    go_wp2
    go_ret2
    exact ⟨rfl, rfl⟩
  · have h1 : decide (p < 0) = false := by simpa using h0
    by_cases h2 : 100 < p
    · have h3 : decide (100 < p) = true := by simpa using h2
      rw [show pctX p = 0 by unfold pctX; rw [if_neg (by omega)], show pctE p = 1 by unfold pctE; rw [if_neg (by omega)]]
      clear h0 h2
      go_enter Try.func17, Try.ntmps17
      go_wp2
      go_ret2
      exact ⟨rfl, rfl⟩
    · have h3 : decide (100 < p) = false := by simpa using h2
      have hd : (binOp .quo 39 (.float .f64 (floatOfInt .f64 p)) (.float .f64 4636737291354636288)).run Try.prog w = .ok (.float .f64 (pctW p)) w := run_float_arith w .quo 39 .f64 _ _ _ (pct_some (by omega) (by omega))
      rw [show pctX p = pctW p by unfold pctX; rw [if_pos (by omega)], show pctE p = 0 by unfold pctE; rw [if_pos (by omega)]]
      clear h0 h2
      go_enter Try.func17, Try.ntmps17
      go_wp2
      go_ret2
      exact ⟨rfl, rfl⟩

/-- a rule's cells -/
def ruleC (r : Nat × Int × Int × Int) : List Value := [.float .f64 r.1, .int .i64 r.2.1, .int .i64 r.2.2.1, .int .i64 r.2.2.2]
def flatR : List (Nat × Int × Int × Int) → List Value
  | [] => []
  | r :: l => ruleC r ++ flatR l
/-- the rules and the Full of a preset -/
def presT (s : ByteArray) (x : Nat) : Option (List (Nat × Int × Int × Int) × Int) :=
  if s = sSemi then some ([(0, 0, 0, 0)], 1)
  else if s = sAppel then some ([(0, 0, 0, 1), (0, 0, 0, 1)], 8)
  else if s = sFixed then some ([(x, 1, 0, 1), (0, 0, 0, 1)], 8)
  else if s = sOlder then some ([(x, 0, 1, 0)], 0)
  else if s = sXx then some ([(x, 0, 1, 1), (x, 0, 1, 1)], 0)
  else if s = sXx100 then some ([(x, 0, 1, 1), (x, 0, 1, 2), (0, 0, 0, 2)], 8)
  else none
/-- a configuration and an error -/
def getT (s : ByteArray) (p : Int) : ByteArray × List (Nat × Int × Int × Int) × Int × Int :=
  match presT s (pctX p) with
  | none => (⟨#[]⟩, [], 0, 7)
  | some (rs, full) => if pctE p = 0 ∧ p ≠ 0 then (s, rs, full, 0) else (⟨#[]⟩, [], 0, 6)
def RetC (w : World) (g : ByteArray × List (Nat × Int × Int × Int) × Int × Int) (r : Ending) (w' : World) : Prop :=
  ∃ A c, r = .returned (.tuple #[.agg #[.string g.1, .slice A g.2.1.length c, .int .i64 g.2.2.1], .int .i64 g.2.2.2]) ∧ w'.ownsRow w.heap.size 41 4 (.slice A g.2.1.length c) g.2.1.length (flatR g.2.1) ∧ Ext w w'

theorem beq_ne {a b : ByteArray} (h : a ≠ b) : (a == b) = false := by
  cases e : (a == b) with
  | true => exact absurd ((MapKept.bytes_beq a b).1 e) h
  | false => rfl
/-- the function of a preset -/
def funT (s : ByteArray) (p : Addr) : Option (Nat × Value) :=
  if s = sSemi then some (0, .func (.func 22) #[] #[])
  else if s = sAppel then some (1, .func (.func 23) #[] #[])
  else if s = sFixed then some (2, .func (.func 24) #[] #[.pointer (some p)])
  else if s = sOlder then some (3, .func (.func 25) #[] #[.pointer (some p)])
  else if s = sXx then some (4, .func (.func 26) #[] #[.pointer (some p)])
  else if s = sXx100 then some (5, .func (.func 27) #[] #[.pointer (some p)])
  else none
theorem find_six (s : ByteArray) (p : Addr) : Instr.findNow .string (.string s) (six p).toList 0 = some (funT s p) := by
  unfold funT
  by_cases h1 : s = sSemi
  · subst h1; rfl
  rw [if_neg h1]
  by_cases h2 : s = sAppel
  · subst h2; rfl
  rw [if_neg h2]
  by_cases h3 : s = sFixed
  · subst h3; rfl
  rw [if_neg h3]
  by_cases h4 : s = sOlder
  · subst h4; rfl
  rw [if_neg h4]
  by_cases h5 : s = sXx
  · subst h5; rfl
  rw [if_neg h5]
  by_cases h6 : s = sXx100
  · subst h6; rfl
  rw [if_neg h6]
  simp [six, Instr.findNow, Instr.sameNow, beq_ne h1, beq_ne h2, beq_ne h3, beq_ne h4, beq_ne h5, beq_ne h6]
theorem zero45 (w : World) : (zeroValue 45).run Try.prog w = .ok .nilFunc w := rfl
theorem run_look (w : World) (b : Nat) (p : Addr) (s : ByteArray) (hb : w.heap[b]? = some (.map (six p) 6)) :
    (Instr.lookup 47 (.map (some b)) (.string s) true).run Try.prog w = .ok (match funT s p with | some (_, v) => .tuple #[v, .bool true] | none => .tuple #[.nilFunc, .bool false]) w := by
  have hc : (Instr.checkKey (six p).isEmpty 10000 9 (.string s)).run Try.prog w = .ok () w := MapKept.run_checkKey (k := .string s) Try.underlying9 (by simp [MapKept.IsKey]) _ 9999
  unfold Instr.lookup
  simp only [Sem.run_bind, run_underlying Try.underlying47, Result.andThen_ok, MapKept.run_getObj_map hb, Sem.run_pure, hc, MapKept.run_findKey Try.underlying9 (find_six s p)]
  cases funT s p with
  | none => simp [zero45]
  | some x => simp

theorem fun_none {s : ByteArray} (p : Addr) (x : Nat) (h : presT s x = none) : funT s p = none := by
  unfold presT at h
  unfold funT
  repeat (split at h; cases h; try (rename_i e; rw [if_neg e]))
/-- rules that the call owns, and a Full -/
def RetR (w : World) (rs : List (Nat × Int × Int × Int)) (full : Int) (r : Ending) (w' : World) : Prop :=
  ∃ A c, r = .returned (.tuple #[.slice A rs.length c, .int .i64 full]) ∧ w'.ownsRow w.heap.size 41 4 (.slice A rs.length c) rs.length (flatR rs) ∧ Ext w w'
theorem retR_new {w : World} {rs : List (Nat × Int × Int × Int)} {full : Int} {cs : Array Value} (hl : rs.length ≤ 10) (hcs : cs = (flatR rs).toArray) (h4 : (flatR rs).length = rs.length * 4) :
    RetR w rs full (.returned (.tuple #[.slice (some ⟨w.heap.size, 0, none⟩) rs.length rs.length, .int .i64 full])) (w.alloc (.cells cs 41)) := by
  subst hcs
  exact ⟨_, _, rfl, own_new rfl (Nat.le_refl _) (by omega) h4, Ext.alloc (Ext.refl _) _⟩
theorem fun22 (w : World) : Calls Try.prog 22 #[] w (RetR w [(0,0,0,0)] 1) := by
  go_enter Try.func22, Try.ntmps22
  go_wp2
  go_ret2
  exact retR_new (by simp) rfl rfl
theorem fun23 (w : World) : Calls Try.prog 23 #[] w (RetR w [(0,0,0,1),(0,0,0,1)] 8) := by
  go_enter Try.func23, Try.ntmps23
  go_wp2
  go_ret2
  exact retR_new (by simp) rfl rfl
theorem fun24 (x : Nat) (q : Addr) (w : World) (hc : w.cell? q = some (.float .f64 x)) : Calls Try.prog 24 #[.pointer (some q)] w (RetR w [(x,1,0,1),(0,0,0,1)] 8) := by
  go_enter Try.func24, Try.ntmps24
  go_wp2
  go_ret2
  exact retR_new (by simp) rfl rfl
theorem fun25 (x : Nat) (q : Addr) (w : World) (hc : w.cell? q = some (.float .f64 x)) : Calls Try.prog 25 #[.pointer (some q)] w (RetR w [(x,0,1,0)] 0) := by
  go_enter Try.func25, Try.ntmps25
  go_wp2
  go_ret2
  exact retR_new (by simp) rfl rfl
theorem fun26 (x : Nat) (q : Addr) (w : World) (hc : w.cell? q = some (.float .f64 x)) : Calls Try.prog 26 #[.pointer (some q)] w (RetR w [(x,0,1,1),(x,0,1,1)] 0) := by
  go_enter Try.func26, Try.ntmps26
  go_wp2
  go_ret2
  exact retR_new (by simp) rfl rfl
theorem fun27 (x : Nat) (q : Addr) (w : World) (hc : w.cell? q = some (.float .f64 x)) : Calls Try.prog 27 #[.pointer (some q)] w (RetR w [(x,0,1,1),(x,0,1,2),(0,0,0,2)] 8) := by
  go_enter Try.func27, Try.ntmps27
  go_wp2
  go_ret2
  exact retR_new (by simp) rfl rfl
theorem fun_some {s : ByteArray} (q : Addr) (x : Nat) {rs : List (Nat × Int × Int × Int)} {full : Int} (h : presT s x = some (rs, full)) :
    ∃ i f cap, funT s q = some (i, .func (.func f) #[] cap) ∧ ∀ W : World, W.cell? q = some (.float .f64 x) → Calls Try.prog f cap W (RetR W rs full) := by
  unfold presT at h
  unfold funT
  by_cases h1 : s = sSemi
  · rw [if_pos h1] at h
    simp only [Option.some.injEq, Prod.mk.injEq] at h
    obtain ⟨rfl, rfl⟩ := h
    exact ⟨_, _, _, if_pos h1, fun W _ => fun22 W⟩
  rw [if_neg h1] at h ⊢
  by_cases h1 : s = sAppel
  · rw [if_pos h1] at h
    simp only [Option.some.injEq, Prod.mk.injEq] at h
    obtain ⟨rfl, rfl⟩ := h
    exact ⟨_, _, _, if_pos h1, fun W _ => fun23 W⟩
  rw [if_neg h1] at h ⊢
  by_cases h1 : s = sFixed
  · rw [if_pos h1] at h
    simp only [Option.some.injEq, Prod.mk.injEq] at h
    obtain ⟨rfl, rfl⟩ := h
    exact ⟨_, _, _, if_pos h1, fun W hc => fun24 x q W hc⟩
  rw [if_neg h1] at h ⊢
  by_cases h1 : s = sOlder
  · rw [if_pos h1] at h
    simp only [Option.some.injEq, Prod.mk.injEq] at h
    obtain ⟨rfl, rfl⟩ := h
    exact ⟨_, _, _, if_pos h1, fun W hc => fun25 x q W hc⟩
  rw [if_neg h1] at h ⊢
  by_cases h1 : s = sXx
  · rw [if_pos h1] at h
    simp only [Option.some.injEq, Prod.mk.injEq] at h
    obtain ⟨rfl, rfl⟩ := h
    exact ⟨_, _, _, if_pos h1, fun W hc => fun26 x q W hc⟩
  rw [if_neg h1] at h ⊢
  by_cases h1 : s = sXx100
  · rw [if_pos h1] at h
    simp only [Option.some.injEq, Prod.mk.injEq] at h
    obtain ⟨rfl, rfl⟩ := h
    exact ⟨_, _, _, if_pos h1, fun W hc => fun27 x q W hc⟩
  rw [if_neg h1] at h
  cases h
theorem blk_of_ext {w w' : World} {cs : Array Value} {t : TypeId} (h : Ext (w.alloc (.cells cs t)) w') : Blk w' w.heap.size t cs := (Blk.new rfl).ext h
theorem alloc_size (w : World) (o : Obj) : (w.alloc o).heap.size = w.heap.size + 1 := by simp
theorem map_at (w : World) (o1 o2 : Obj) (es : Array MapEntry) (c : Nat) : (((w.alloc o1).alloc o2).alloc (.map es c)).heap[w.heap.size + 1 + 1]? = some (.map es c) := by
  have h := heap_alloc_new ((w.alloc o1).alloc o2) (.map es c)
  rw [show ((w.alloc o1).alloc o2).heap.size = w.heap.size + 1 + 1 by simp] at h
  exact h
theorem cell_x (w : World) (o1 o2 o3 : Obj) (v : Value) : ((((w.alloc o1).alloc (.cells #[v] 39)).alloc o2).alloc o3).cell? ⟨w.heap.size + 1, 0, none⟩ = some v := by
  have k : Blk ((((w.alloc o1).alloc (.cells #[v] 39)).alloc o2).alloc o3) (w.heap.size + 1) 39 #[v] := Blk.alloc (Blk.alloc (Blk.new (by simp)) _) _
  exact k.cell 0
theorem ext_four {w w1 : World} {o1 o2 o3 : Obj} {t : TypeId} {cs : Array Value} (h : Ext ((((w.alloc (.cells cs t)).alloc o1).alloc o2).alloc o3) w1) : Blk w1 w.heap.size t cs :=
  (Blk.alloc (Blk.alloc (Blk.alloc (Blk.new rfl) _) _) _).ext h
set_option maxHeartbeats 4000000 in
theorem get_any (s : ByteArray) (p : Int) (w : World) : Calls Try.prog 9 #[.string s, .int .i64 p] w fun r w' => RetC w (getT s p) r w' := by
  have hl := run_look (((w.alloc (.cells #[.string ⟨#[]⟩, .slice none 0 0, .int .i64 0] 28)).alloc (.cells #[.float .f64 (pctX p)] 39)).alloc (.map (six ⟨w.heap.size + 1, 0, none⟩) 6)) (w.heap.size + 1 + 1) ⟨w.heap.size + 1, 0, none⟩ s (map_at _ _ _ _ _)
  cases hp : presT s (pctX p) with
  | none =>
    rw [fun_none _ _ hp] at hl
    rw [show getT s p = (⟨#[]⟩, [], 0, 7) by unfold getT; rw [hp]]
    simp only at hl
    clear hp
    go_enter Try.func9, Try.ntmps9
    go_wp2_with (first | (go_at_call 15; refine (percent_any _ _).mono ?_; rintro e w1 ⟨rfl, rfl⟩) | (go_at_call 16; refine (rules_any _ _).mono ?_; rintro e w1 ⟨rfl, rfl⟩))
    refine bodyPost_ret (v := .tuple #[.agg #[.string ⟨#[]⟩, .slice none 0 0, .int .i64 0], .int .i64 7]) (by simp [results, Try.results9, go_sem]) rfl ⟨none, 0, rfl, own_nil _ _ _ _, by (repeat (first | (with_reducible exact Ext.refl _) | assumption | (with_reducible refine Ext.alloc ?_ _) | (with_reducible refine Ext.drew ?_) | (with_reducible refine Ext.drewL ?_) | refine Ext.trans ?_ (by assumption)))⟩
  | some y =>
    obtain ⟨rs, full⟩ := y
    by_cases hb : pctE p = 0 ∧ p ≠ 0
    · obtain ⟨he, hp0⟩ := hb
      have b1 : (p == 0) = false := by simpa using hp0
      by_cases h1 : s = sSemi
      · subst h1
        have ht : getT sSemi p = (sSemi, [(0,0,0,0)], 1, 0) := by
          unfold getT presT
          rw [if_pos rfl]
          simp only
          rw [if_pos ⟨he, hp0⟩]
        rw [ht]
        have hfv : funT sSemi ⟨w.heap.size + 1, 0, none⟩ = some (0, .func (.func 22) #[] #[]) := by
          unfold funT
          rw [if_pos rfl]
        rw [hfv] at hl
        simp only at hl
        clear hp hp0 ht hfv
        have hz : (((w.alloc (.cells #[.string ⟨#[]⟩, .slice none 0 0, .int .i64 0] 28)).alloc (.cells #[.float .f64 (pctX p)] 39)).alloc (.map (six ⟨w.heap.size + 1, 0, none⟩) 6)).heap.size = w.heap.size + 1 + 1 + 1 := by simp
        generalize sSemi = nm at *
        have hz4 : ((((w.alloc (.cells #[.string ⟨#[]⟩, .slice none 0 0, .int .i64 0] 28)).alloc (.cells #[.float .f64 (pctX p)] 39)).alloc (.map (six ⟨w.heap.size + 1, 0, none⟩) 6)).alloc (.cells #[.string nm, .slice none 0 0, .int .i64 0] 28)).heap.size = w.heap.size + 1 + 1 + 1 + 1 := by simp
        go_enter Try.func9, Try.ntmps9
        go_wp2_with (first | (go_at_call 15; refine (percent_any _ _).mono ?_; rintro e w1 ⟨rfl, rfl⟩) | (go_at_call 16; refine (rules_any _ _).mono ?_; rintro e w1 ⟨rfl, rfl⟩) | (go_at_call 22; refine (fun22 _).mono ?_; rintro e w1 ⟨A, c, rfl, hO, hE⟩; have k10 := (blk_of_ext hE); have k4 := ext_four hE; rw [hz] at k10; have c10 := k10.cell; have f10 := k10.froz; have l10 := k10.lt; rw [hz4] at hO; have c4 := k4.cell; have f4 := k4.froz; have l4 := k4.lt))
        refine bodyPost_ret (v := .tuple #[.agg #[.string nm, .slice A 1 c, .int .i64 1], .int .i64 0]) (by simp [results, Try.results9, go_sem, c4]) rfl ⟨A, c, rfl, ?_, ?_⟩
        · refine own_base (own_below (own_below (own_below (own_below (own_below hO ?_ _) ?_ _) ?_ _) ?_ _) ?_ _) (by omega)
          all_goals first | (show w.heap.size + 1 + 1 + 1 < w.heap.size + 1 + 1 + 1 + 1; omega) | (show w.heap.size < w.heap.size + 1 + 1 + 1 + 1; omega)
        · refine Ext.setCell (Ext.setCell (Ext.setCell (Ext.setCell (Ext.setCell (Ext.trans ?_ hE) ?_ _) ?_ _) ?_ _) ?_ _) ?_ _
          · exact Ext.alloc (Ext.alloc (Ext.alloc (Ext.alloc (Ext.refl _) _) _) _) _
          all_goals first | (show w.heap.size ≤ w.heap.size + 1 + 1 + 1; omega) | exact Nat.le_refl _
      by_cases h1 : s = sAppel
      · subst h1
        have ht : getT sAppel p = (sAppel, [(0,0,0,1),(0,0,0,1)], 8, 0) := by
          unfold getT presT
          rw [if_neg (by decide), if_pos rfl]
          simp only
          rw [if_pos ⟨he, hp0⟩]
        rw [ht]
        have hfv : funT sAppel ⟨w.heap.size + 1, 0, none⟩ = some (1, .func (.func 23) #[] #[]) := by
          unfold funT
          rw [if_neg (by decide), if_pos rfl]
        rw [hfv] at hl
        simp only at hl
        clear hp hp0 ht hfv
        have hz : (((w.alloc (.cells #[.string ⟨#[]⟩, .slice none 0 0, .int .i64 0] 28)).alloc (.cells #[.float .f64 (pctX p)] 39)).alloc (.map (six ⟨w.heap.size + 1, 0, none⟩) 6)).heap.size = w.heap.size + 1 + 1 + 1 := by simp
        generalize sAppel = nm at *
        have hz4 : ((((w.alloc (.cells #[.string ⟨#[]⟩, .slice none 0 0, .int .i64 0] 28)).alloc (.cells #[.float .f64 (pctX p)] 39)).alloc (.map (six ⟨w.heap.size + 1, 0, none⟩) 6)).alloc (.cells #[.string nm, .slice none 0 0, .int .i64 0] 28)).heap.size = w.heap.size + 1 + 1 + 1 + 1 := by simp
        go_enter Try.func9, Try.ntmps9
        go_wp2_with (first | (go_at_call 15; refine (percent_any _ _).mono ?_; rintro e w1 ⟨rfl, rfl⟩) | (go_at_call 16; refine (rules_any _ _).mono ?_; rintro e w1 ⟨rfl, rfl⟩) | (go_at_call 23; refine (fun23 _).mono ?_; rintro e w1 ⟨A, c, rfl, hO, hE⟩; have k10 := (blk_of_ext hE); have k4 := ext_four hE; rw [hz] at k10; have c10 := k10.cell; have f10 := k10.froz; have l10 := k10.lt; rw [hz4] at hO; have c4 := k4.cell; have f4 := k4.froz; have l4 := k4.lt))
        refine bodyPost_ret (v := .tuple #[.agg #[.string nm, .slice A 2 c, .int .i64 8], .int .i64 0]) (by simp [results, Try.results9, go_sem, c4]) rfl ⟨A, c, rfl, ?_, ?_⟩
        · refine own_base (own_below (own_below (own_below (own_below (own_below hO ?_ _) ?_ _) ?_ _) ?_ _) ?_ _) (by omega)
          all_goals first | (show w.heap.size + 1 + 1 + 1 < w.heap.size + 1 + 1 + 1 + 1; omega) | (show w.heap.size < w.heap.size + 1 + 1 + 1 + 1; omega)
        · refine Ext.setCell (Ext.setCell (Ext.setCell (Ext.setCell (Ext.setCell (Ext.trans ?_ hE) ?_ _) ?_ _) ?_ _) ?_ _) ?_ _
          · exact Ext.alloc (Ext.alloc (Ext.alloc (Ext.alloc (Ext.refl _) _) _) _) _
          all_goals first | (show w.heap.size ≤ w.heap.size + 1 + 1 + 1; omega) | exact Nat.le_refl _
      by_cases h1 : s = sFixed
      · subst h1
        have ht : getT sFixed p = (sFixed, [(pctX p,1,0,1),(0,0,0,1)], 8, 0) := by
          unfold getT presT
          rw [if_neg (by decide), if_neg (by decide), if_pos rfl]
          simp only
          rw [if_pos ⟨he, hp0⟩]
        rw [ht]
        have hfv : funT sFixed ⟨w.heap.size + 1, 0, none⟩ = some (2, .func (.func 24) #[] #[.pointer (some ⟨w.heap.size + 1, 0, none⟩)]) := by
          unfold funT
          rw [if_neg (by decide), if_neg (by decide), if_pos rfl]
        rw [hfv] at hl
        simp only at hl
        clear hp hp0 ht hfv
        have hz : (((w.alloc (.cells #[.string ⟨#[]⟩, .slice none 0 0, .int .i64 0] 28)).alloc (.cells #[.float .f64 (pctX p)] 39)).alloc (.map (six ⟨w.heap.size + 1, 0, none⟩) 6)).heap.size = w.heap.size + 1 + 1 + 1 := by simp
        generalize sFixed = nm at *
        have hz4 : ((((w.alloc (.cells #[.string ⟨#[]⟩, .slice none 0 0, .int .i64 0] 28)).alloc (.cells #[.float .f64 (pctX p)] 39)).alloc (.map (six ⟨w.heap.size + 1, 0, none⟩) 6)).alloc (.cells #[.string nm, .slice none 0 0, .int .i64 0] 28)).heap.size = w.heap.size + 1 + 1 + 1 + 1 := by simp
        go_enter Try.func9, Try.ntmps9
        go_wp2_with (first | (go_at_call 15; refine (percent_any _ _).mono ?_; rintro e w1 ⟨rfl, rfl⟩) | (go_at_call 16; refine (rules_any _ _).mono ?_; rintro e w1 ⟨rfl, rfl⟩) | (go_at_call 24; refine (fun24 (pctX p) ⟨w.heap.size + 1, 0, none⟩ _ (cell_x _ _ _ _ _)).mono ?_; rintro e w1 ⟨A, c, rfl, hO, hE⟩; have k10 := (blk_of_ext hE); have k4 := ext_four hE; rw [hz] at k10; have c10 := k10.cell; have f10 := k10.froz; have l10 := k10.lt; rw [hz4] at hO; have c4 := k4.cell; have f4 := k4.froz; have l4 := k4.lt))
        refine bodyPost_ret (v := .tuple #[.agg #[.string nm, .slice A 2 c, .int .i64 8], .int .i64 0]) (by simp [results, Try.results9, go_sem, c4]) rfl ⟨A, c, rfl, ?_, ?_⟩
        · refine own_base (own_below (own_below (own_below (own_below (own_below hO ?_ _) ?_ _) ?_ _) ?_ _) ?_ _) (by omega)
          all_goals first | (show w.heap.size + 1 + 1 + 1 < w.heap.size + 1 + 1 + 1 + 1; omega) | (show w.heap.size < w.heap.size + 1 + 1 + 1 + 1; omega)
        · refine Ext.setCell (Ext.setCell (Ext.setCell (Ext.setCell (Ext.setCell (Ext.trans ?_ hE) ?_ _) ?_ _) ?_ _) ?_ _) ?_ _
          · exact Ext.alloc (Ext.alloc (Ext.alloc (Ext.alloc (Ext.refl _) _) _) _) _
          all_goals first | (show w.heap.size ≤ w.heap.size + 1 + 1 + 1; omega) | exact Nat.le_refl _
      by_cases h1 : s = sOlder
      · subst h1
        have ht : getT sOlder p = (sOlder, [(pctX p,0,1,0)], 0, 0) := by
          unfold getT presT
          rw [if_neg (by decide), if_neg (by decide), if_neg (by decide), if_pos rfl]
          simp only
          rw [if_pos ⟨he, hp0⟩]
        rw [ht]
        have hfv : funT sOlder ⟨w.heap.size + 1, 0, none⟩ = some (3, .func (.func 25) #[] #[.pointer (some ⟨w.heap.size + 1, 0, none⟩)]) := by
          unfold funT
          rw [if_neg (by decide), if_neg (by decide), if_neg (by decide), if_pos rfl]
        rw [hfv] at hl
        simp only at hl
        clear hp hp0 ht hfv
        have hz : (((w.alloc (.cells #[.string ⟨#[]⟩, .slice none 0 0, .int .i64 0] 28)).alloc (.cells #[.float .f64 (pctX p)] 39)).alloc (.map (six ⟨w.heap.size + 1, 0, none⟩) 6)).heap.size = w.heap.size + 1 + 1 + 1 := by simp
        generalize sOlder = nm at *
        have hz4 : ((((w.alloc (.cells #[.string ⟨#[]⟩, .slice none 0 0, .int .i64 0] 28)).alloc (.cells #[.float .f64 (pctX p)] 39)).alloc (.map (six ⟨w.heap.size + 1, 0, none⟩) 6)).alloc (.cells #[.string nm, .slice none 0 0, .int .i64 0] 28)).heap.size = w.heap.size + 1 + 1 + 1 + 1 := by simp
        go_enter Try.func9, Try.ntmps9
        go_wp2_with (first | (go_at_call 15; refine (percent_any _ _).mono ?_; rintro e w1 ⟨rfl, rfl⟩) | (go_at_call 16; refine (rules_any _ _).mono ?_; rintro e w1 ⟨rfl, rfl⟩) | (go_at_call 25; refine (fun25 (pctX p) ⟨w.heap.size + 1, 0, none⟩ _ (cell_x _ _ _ _ _)).mono ?_; rintro e w1 ⟨A, c, rfl, hO, hE⟩; have k10 := (blk_of_ext hE); have k4 := ext_four hE; rw [hz] at k10; have c10 := k10.cell; have f10 := k10.froz; have l10 := k10.lt; rw [hz4] at hO; have c4 := k4.cell; have f4 := k4.froz; have l4 := k4.lt))
        refine bodyPost_ret (v := .tuple #[.agg #[.string nm, .slice A 1 c, .int .i64 0], .int .i64 0]) (by simp [results, Try.results9, go_sem, c4]) rfl ⟨A, c, rfl, ?_, ?_⟩
        · refine own_base (own_below (own_below (own_below (own_below (own_below hO ?_ _) ?_ _) ?_ _) ?_ _) ?_ _) (by omega)
          all_goals first | (show w.heap.size + 1 + 1 + 1 < w.heap.size + 1 + 1 + 1 + 1; omega) | (show w.heap.size < w.heap.size + 1 + 1 + 1 + 1; omega)
        · refine Ext.setCell (Ext.setCell (Ext.setCell (Ext.setCell (Ext.setCell (Ext.trans ?_ hE) ?_ _) ?_ _) ?_ _) ?_ _) ?_ _
          · exact Ext.alloc (Ext.alloc (Ext.alloc (Ext.alloc (Ext.refl _) _) _) _) _
          all_goals first | (show w.heap.size ≤ w.heap.size + 1 + 1 + 1; omega) | exact Nat.le_refl _
      by_cases h1 : s = sXx
      · subst h1
        have ht : getT sXx p = (sXx, [(pctX p,0,1,1),(pctX p,0,1,1)], 0, 0) := by
          unfold getT presT
          rw [if_neg (by decide), if_neg (by decide), if_neg (by decide), if_neg (by decide), if_pos rfl]
          simp only
          rw [if_pos ⟨he, hp0⟩]
        rw [ht]
        have hfv : funT sXx ⟨w.heap.size + 1, 0, none⟩ = some (4, .func (.func 26) #[] #[.pointer (some ⟨w.heap.size + 1, 0, none⟩)]) := by
          unfold funT
          rw [if_neg (by decide), if_neg (by decide), if_neg (by decide), if_neg (by decide), if_pos rfl]
        rw [hfv] at hl
        simp only at hl
        clear hp hp0 ht hfv
        have hz : (((w.alloc (.cells #[.string ⟨#[]⟩, .slice none 0 0, .int .i64 0] 28)).alloc (.cells #[.float .f64 (pctX p)] 39)).alloc (.map (six ⟨w.heap.size + 1, 0, none⟩) 6)).heap.size = w.heap.size + 1 + 1 + 1 := by simp
        generalize sXx = nm at *
        have hz4 : ((((w.alloc (.cells #[.string ⟨#[]⟩, .slice none 0 0, .int .i64 0] 28)).alloc (.cells #[.float .f64 (pctX p)] 39)).alloc (.map (six ⟨w.heap.size + 1, 0, none⟩) 6)).alloc (.cells #[.string nm, .slice none 0 0, .int .i64 0] 28)).heap.size = w.heap.size + 1 + 1 + 1 + 1 := by simp
        go_enter Try.func9, Try.ntmps9
        go_wp2_with (first | (go_at_call 15; refine (percent_any _ _).mono ?_; rintro e w1 ⟨rfl, rfl⟩) | (go_at_call 16; refine (rules_any _ _).mono ?_; rintro e w1 ⟨rfl, rfl⟩) | (go_at_call 26; refine (fun26 (pctX p) ⟨w.heap.size + 1, 0, none⟩ _ (cell_x _ _ _ _ _)).mono ?_; rintro e w1 ⟨A, c, rfl, hO, hE⟩; have k10 := (blk_of_ext hE); have k4 := ext_four hE; rw [hz] at k10; have c10 := k10.cell; have f10 := k10.froz; have l10 := k10.lt; rw [hz4] at hO; have c4 := k4.cell; have f4 := k4.froz; have l4 := k4.lt))
        refine bodyPost_ret (v := .tuple #[.agg #[.string nm, .slice A 2 c, .int .i64 0], .int .i64 0]) (by simp [results, Try.results9, go_sem, c4]) rfl ⟨A, c, rfl, ?_, ?_⟩
        · refine own_base (own_below (own_below (own_below (own_below (own_below hO ?_ _) ?_ _) ?_ _) ?_ _) ?_ _) (by omega)
          all_goals first | (show w.heap.size + 1 + 1 + 1 < w.heap.size + 1 + 1 + 1 + 1; omega) | (show w.heap.size < w.heap.size + 1 + 1 + 1 + 1; omega)
        · refine Ext.setCell (Ext.setCell (Ext.setCell (Ext.setCell (Ext.setCell (Ext.trans ?_ hE) ?_ _) ?_ _) ?_ _) ?_ _) ?_ _
          · exact Ext.alloc (Ext.alloc (Ext.alloc (Ext.alloc (Ext.refl _) _) _) _) _
          all_goals first | (show w.heap.size ≤ w.heap.size + 1 + 1 + 1; omega) | exact Nat.le_refl _
      by_cases h1 : s = sXx100
      · subst h1
        have ht : getT sXx100 p = (sXx100, [(pctX p,0,1,1),(pctX p,0,1,2),(0,0,0,2)], 8, 0) := by
          unfold getT presT
          rw [if_neg (by decide), if_neg (by decide), if_neg (by decide), if_neg (by decide), if_neg (by decide), if_pos rfl]
          simp only
          rw [if_pos ⟨he, hp0⟩]
        rw [ht]
        have hfv : funT sXx100 ⟨w.heap.size + 1, 0, none⟩ = some (5, .func (.func 27) #[] #[.pointer (some ⟨w.heap.size + 1, 0, none⟩)]) := by
          unfold funT
          rw [if_neg (by decide), if_neg (by decide), if_neg (by decide), if_neg (by decide), if_neg (by decide), if_pos rfl]
        rw [hfv] at hl
        simp only at hl
        clear hp hp0 ht hfv
        have hz : (((w.alloc (.cells #[.string ⟨#[]⟩, .slice none 0 0, .int .i64 0] 28)).alloc (.cells #[.float .f64 (pctX p)] 39)).alloc (.map (six ⟨w.heap.size + 1, 0, none⟩) 6)).heap.size = w.heap.size + 1 + 1 + 1 := by simp
        generalize sXx100 = nm at *
        have hz4 : ((((w.alloc (.cells #[.string ⟨#[]⟩, .slice none 0 0, .int .i64 0] 28)).alloc (.cells #[.float .f64 (pctX p)] 39)).alloc (.map (six ⟨w.heap.size + 1, 0, none⟩) 6)).alloc (.cells #[.string nm, .slice none 0 0, .int .i64 0] 28)).heap.size = w.heap.size + 1 + 1 + 1 + 1 := by simp
        go_enter Try.func9, Try.ntmps9
        go_wp2_with (first | (go_at_call 15; refine (percent_any _ _).mono ?_; rintro e w1 ⟨rfl, rfl⟩) | (go_at_call 16; refine (rules_any _ _).mono ?_; rintro e w1 ⟨rfl, rfl⟩) | (go_at_call 27; refine (fun27 (pctX p) ⟨w.heap.size + 1, 0, none⟩ _ (cell_x _ _ _ _ _)).mono ?_; rintro e w1 ⟨A, c, rfl, hO, hE⟩; have k10 := (blk_of_ext hE); have k4 := ext_four hE; rw [hz] at k10; have c10 := k10.cell; have f10 := k10.froz; have l10 := k10.lt; rw [hz4] at hO; have c4 := k4.cell; have f4 := k4.froz; have l4 := k4.lt))
        refine bodyPost_ret (v := .tuple #[.agg #[.string nm, .slice A 3 c, .int .i64 8], .int .i64 0]) (by simp [results, Try.results9, go_sem, c4]) rfl ⟨A, c, rfl, ?_, ?_⟩
        · refine own_base (own_below (own_below (own_below (own_below (own_below hO ?_ _) ?_ _) ?_ _) ?_ _) ?_ _) (by omega)
          all_goals first | (show w.heap.size + 1 + 1 + 1 < w.heap.size + 1 + 1 + 1 + 1; omega) | (show w.heap.size < w.heap.size + 1 + 1 + 1 + 1; omega)
        · refine Ext.setCell (Ext.setCell (Ext.setCell (Ext.setCell (Ext.setCell (Ext.trans ?_ hE) ?_ _) ?_ _) ?_ _) ?_ _) ?_ _
          · exact Ext.alloc (Ext.alloc (Ext.alloc (Ext.alloc (Ext.refl _) _) _) _) _
          all_goals first | (show w.heap.size ≤ w.heap.size + 1 + 1 + 1; omega) | exact Nat.le_refl _
      exfalso
      rename_i g1 g2 g3 g4 g5
      unfold presT at hp
      rw [if_neg g1, if_neg g2, if_neg g3, if_neg g4, if_neg g5, if_neg h1] at hp
      cases hp
    · rw [show getT s p = (⟨#[]⟩, [], 0, 6) by unfold getT; rw [hp]; simp only; rw [if_neg hb]]
      obtain ⟨i, f, cap, hf, _⟩ := fun_some ⟨w.heap.size + 1, 0, none⟩ _ hp
      rw [hf] at hl
      simp only at hl
      clear hp hf
      by_cases he : pctE p = 0
      · have hp0 : p = 0 := by
          rcases Classical.em (p = 0) with h | h
          · exact h
          · exact absurd ⟨he, h⟩ hb
        subst hp0
        clear hb
        go_enter Try.func9, Try.ntmps9
        go_wp2_with (first | (go_at_call 15; refine (percent_any _ _).mono ?_; rintro e w1 ⟨rfl, rfl⟩) | (go_at_call 16; refine (rules_any _ _).mono ?_; rintro e w1 ⟨rfl, rfl⟩))
        refine bodyPost_ret (v := .tuple #[.agg #[.string ⟨#[]⟩, .slice none 0 0, .int .i64 0], .int .i64 6]) (by simp [results, Try.results9, go_sem]) rfl ⟨none, 0, rfl, own_nil _ _ _ _, by (repeat (first | (with_reducible exact Ext.refl _) | assumption | (with_reducible refine Ext.alloc ?_ _) | (with_reducible refine Ext.drew ?_) | (with_reducible refine Ext.drewL ?_) | refine Ext.trans ?_ (by assumption)))⟩
      · have b1 : (pctE p != 0) = true := by simpa using he
        clear he hb
        go_enter Try.func9, Try.ntmps9
        go_wp2_with (first | (go_at_call 15; refine (percent_any _ _).mono ?_; rintro e w1 ⟨rfl, rfl⟩) | (go_at_call 16; refine (rules_any _ _).mono ?_; rintro e w1 ⟨rfl, rfl⟩))
        refine bodyPost_ret (v := .tuple #[.agg #[.string ⟨#[]⟩, .slice none 0 0, .int .i64 0], .int .i64 6]) (by simp [results, Try.results9, go_sem]) rfl ⟨none, 0, rfl, own_nil _ _ _ _, by (repeat (first | (with_reducible exact Ext.refl _) | assumption | (with_reducible refine Ext.alloc ?_ _) | (with_reducible refine Ext.drew ?_) | (with_reducible refine Ext.drewL ?_) | refine Ext.trans ?_ (by assumption)))⟩
end Go.Proofs.Ytkioemeohofpcaa
