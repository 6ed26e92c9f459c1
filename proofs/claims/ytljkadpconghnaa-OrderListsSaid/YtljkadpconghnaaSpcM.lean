/- The walk of frame.New (reference). Conditions: the ranges that each theorem states. -/
import Derived.Test.YtljkadpconghnaaSpcL
namespace Go.Proofs.Ytljkadpconghnaa
open Go.RowKit Go.Draw

theorem made3 (n : Nat) : (madeCells (Value.agg #[.int .i64 0, .int .i64 0, .int .i64 0]).cells (n * 3)).toList = List.replicate (n * 3) (Value.int .i64 0) := by
  apply List.ext_getElem
  · simp [madeCells]
  · intro i h1 h2
    have hm : i % 3 = 0 ∨ i % 3 = 1 ∨ i % 3 = 2 := by omega
    simp only [madeCells, Value.cells]
    rcases hm with h | h | h <;> simp [h]
theorem run_mkF (n : Nat) (hn : n ≤ 1000000) (w : World) :
    (Instr.makeSlice 33 (.int .i64 (n : Int)) (.int .i64 (n : Int))).run Try.prog w = .ok (.slice (some ⟨w.heap.size, 0, none⟩) n n) (w.alloc (.cells (List.replicate (n * 3) (Value.int .i64 0)).toArray 43)) := by
  obtain ⟨i, hi, hz, hsize, hbytes⟩ := info_parts Try.elF.ex
  have hb' : (i.bytes : Int) * (n : Int) ≤ 281474976710656 := by
    rw [hbytes]; omega
  have hr := run_make (P := Try.prog) w 33 43 i _ Try.elF.ht hi hz .i64 .i64 n n (by omega) (Int.le_refl _) hb' (by omega)
  simp only [Int.toNat_natCast, hsize] at hr
  rw [hr, show madeCells (Value.agg #[.int .i64 0, .int .i64 0, .int .i64 0]).cells (n * 3) = (List.replicate (n * 3) (Value.int .i64 0)).toArray from Array.ext' (by rw [made3])]
theorem own_bel {N : Nat} {S : List Nat} {w : World} {cs : Array Value} {e : TypeId} {n size : Nat} (_ : Bel N S w (w.alloc (.cells cs e))) (hn : n ≤ 1000000) (hc : cs.size = n * size) : (w.alloc (.cells cs e)).ownsRow w.heap.size e size (.slice (some ⟨w.heap.size, 0, none⟩) n n) n cs.toList := by
  have := own_new (w := w) (cs := cs.toList) (e := e) (size := size) (n := n) rfl (Nat.le_refl _) hn (by simpa using hc)
  simpa using this
theorem own_bel2 {N : Nat} {S : List Nat} {w : World} {cs : Array Value} {e : TypeId} {n size : Nat} (_ : Bel N S w.drew (w.drew.alloc (.cells cs e))) (hn : n ≤ 1000000) (hc : cs.size = n * size) : (w.alloc (.cells cs e)).ownsRow w.heap.size e size (.slice (some ⟨w.heap.size, 0, none⟩) n n) n cs.toList := own_bel (w := w) (N := w.heap.size) (S := []) ((Bel.refl _ _ _).alloc _) hn hc
theorem own_via {w1 wx : World} {b1 base o g n size c : Nat} {e : TypeId} {xs : List Value} (h : w1.ownsRow b1 e size (.slice (some ⟨g, 0, none⟩) n c) n xs) (e1 : But [o] w1 wx) (h1 : base ≤ b1) (ho : g ≠ o) : wx.ownsRow base e size (.slice (some ⟨g, 0, none⟩) n c) n xs :=
  own_base (own_but h e1 (fun q hq hm => by simp only [Value.ownBlock, Option.some.injEq] at hq; exact ho (hq.trans (List.mem_singleton.1 hm)))) h1
theorem Bel.both {N : Nat} {S : List Nat} {a b : World} (h : Bel N S a b) (hN : N ≤ a.heap.size) {o o' : Obj} : Bel N S (a.alloc o) (b.alloc o') := by
  have hb := h.size
  refine ⟨h.os, h.tape, h.output, by simpa using h.size, fun _ k hk hs => ?_⟩
  rw [RowKit.Below.heap_alloc _ _ _ (by omega), RowKit.Below.heap_alloc _ _ _ (by omega)]
  exact h.block hN k hk hs
theorem alloc_sz (w : World) (o : Obj) : (w.alloc o).heap.size = w.heap.size + 1 := by simp
theorem ext_bel {W wx : World} (h : Bel W.heap.size [] W.drew wx) : Ext W wx := ⟨h.os, h.tape, h.output, h.size, fun k hk => h.block (Nat.le_refl _) k hk (by simp)⟩
theorem blk_of_bel {N : Nat} {S : List Nat} {w : World} {cs : Array Value} {t : TypeId} (_ : Bel N S w (w.alloc (.cells cs t))) : Blk (w.alloc (.cells cs t)) w.heap.size t cs := Blk.new rfl
theorem blk_of_bel2 {N : Nat} {S : List Nat} {w : World} {cs : Array Value} {t : TypeId} (_ : Bel N S w.drew (w.alloc (.cells cs t)).drew) : Blk (w.alloc (.cells cs t)).drew w.heap.size t cs := Blk.drew (Blk.new rfl)

def zeroWs (n : Nat) : List Int := List.replicate n 0
/-- frames: the first k are free, the others as make left them -/
def mixF (n k : Nat) : List Fr := List.replicate k freeF ++ List.replicate (n - k) ⟨0, 0, 0⟩
theorem mixF_len {n k : Nat} (h : k ≤ n) : (mixF n k).length = n := by simp [mixF]; omega
theorem mixF_set {n k : Nat} (h : k < n) : (mixF n k).set k freeF = mixF n (k + 1) := by
  unfold mixF
  rw [List.set_append_right _ _ (by simp)]
  simp only [List.length_replicate, Nat.sub_self]
  rw [show n - k = (n - (k + 1)) + 1 by omega, List.replicate_succ, List.set_cons_zero, List.replicate_succ', List.append_assoc]
  rfl
theorem frs_zero (n : Nat) : frs (List.replicate n ⟨0, 0, 0⟩) = List.replicate (n * 3) (Value.int .i64 0) := by
  induction n with
  | zero => rfl
  | succ n ih =>
    rw [List.replicate_succ, frs, ih, show (n + 1) * 3 = n * 3 + 1 + 1 + 1 by omega]
    simp only [List.replicate_succ]
def newSp (sh n : Nat) : Sp := ⟨sh, zeroWs (n * 2 ^ sh), List.replicate n freeF⟩
theorem newSp_chs {sh n : Nat} (h1 : 3 ≤ sh ∧ sh ≤ 8) (h2 : 2 ≤ n ∧ n ≤ 64) : Chs (newSp sh n) [] := by
  refine ⟨h1, by simpa [newSp] using h2, by simp [newSp, zeroWs], by simp, by simp, by simp, by simp [used], ?_, ?_⟩
  · intro f hf _
    simp only [newSp, List.length_replicate] at hf
    simp [newSp, List.getElem?_replicate, hf]
  · intro f hf _ j hj
    simp only [newSp, List.length_replicate] at hf hj
    simp only [newSp, zeroWs, List.getElem?_replicate]
    rw [if_pos]
    have : (f + 1) * 2 ^ sh ≤ n * 2 ^ sh := Nat.mul_le_mul_right _ (by omega)
    rw [Nat.succ_mul] at this
    omega

theorem fin_new {Q : Ending → World → Prop} {a : Act} {W : World} {g1 : Nat} {u0 u1 u2 t9 : Value} (hd : a.defers = []) (h6 : a.tmps[4]?.getD undef = .pointer (some ⟨g1, 0, none⟩)) (h9 : a.tmps[5]?.getD undef = t9)
    (k1 : Blk W g1 35 #[u0, u1, u2]) (hQ : Q (.returned (.tuple #[.agg #[u0, u1, u2], t9])) W) :
    bodyPost Try.prog Try.f24 Q Exit.ret a W := by
  have c1 := k1.cell
  exact bodyPost_ret (v := .tuple #[.agg #[u0, u1, u2], t9]) (by simp [results, Try.results24, go_sem, h6, h9, c1]) hd hQ
theorem pack_new {W w1 w2 wx : World} {b0 b1 b2 o gW gF m n sh : Nat} {cW cF : List Value} (hW : w1.ownsRow b1 92 1 (.slice (some ⟨gW, 0, none⟩) m m) m cW) (hF : w2.ownsRow b2 43 3 (.slice (some ⟨gF, 0, none⟩) n n) n cF)
    (k : Blk wx o 35 #[.int .i64 sh, .slice (some ⟨gW, 0, none⟩) m m, .slice (some ⟨gF, 0, none⟩) n n]) (e1 : But [o] w1 wx) (e2 : But [o] w2 wx) (h1 : W.heap.size ≤ b1) (h2 : W.heap.size ≤ b2) (n1 : gF ≠ o) (n2 : gW ≠ o) (hE : Ext W wx) (ho : W.heap.size ≤ o) :
    ∃ o' gW' gF' : Nat, Value.pointer (some ⟨b0, 0, none⟩) = .pointer (some ⟨b0, 0, none⟩) ∧ Value.pointer (some ⟨o, 0, none⟩) = .pointer (some ⟨o', 0, none⟩) ∧ Blk wx o' 35 #[.int .i64 sh, .slice (some ⟨gW', 0, none⟩) m m, .slice (some ⟨gF', 0, none⟩) n n] ∧ wx.ownsRow W.heap.size 92 1 (.slice (some ⟨gW', 0, none⟩) m m) m cW ∧ wx.ownsRow W.heap.size 43 3 (.slice (some ⟨gF', 0, none⟩) n n) n cF ∧ Ext W wx ∧ W.heap.size ≤ o' ∧ gF' ≠ o' ∧ gW' ≠ o' :=
  ⟨o, gW, gF, rfl, rfl, k, own_via hW e1 h1 n2, own_via hF e2 h2 n1, hE, ho, n1, n2⟩
set_option maxRecDepth 100000 in
set_option maxHeartbeats 4000000 in
theorem new_any (sh n : Nat) (w : World) (hsh : 3 ≤ sh ∧ sh ≤ 8) (hn : 2 ≤ n ∧ n ≤ 64) : Calls Try.prog 24 #[.int .i64 sh, .int .i64 n] w fun r w' => ∃ gW cW gF cF : Nat, r = .returned (.tuple #[.agg #[.int .i64 sh, .slice (some ⟨gW, 0, none⟩) (newSp sh n).ws.length cW, .slice (some ⟨gF, 0, none⟩) (newSp sh n).fs.length cF], .int .i64 0]) ∧ SOw w' w.heap.size (newSp sh n) gW cW gF cF ∧ Ext w w' := by
  obtain ⟨B, hB⟩ : ∃ B, 2 ^ sh = B := ⟨_, rfl⟩
  have hb1 := (pow_bd hsh).1
  have hb2 := (pow_bd hsh).2
  rw [hB] at hb1 hb2
  have hB' : (2 : Int) ^ sh = B := by rw [← hB]; simp
  have s1 : (sh : Int).toNat = sh := by omega
  have hnB : n * B ≤ 64 * 256 := Nat.mul_le_mul hn.2 hb2
  obtain ⟨m, hm⟩ : ∃ m, n * B = m := ⟨_, rfl⟩
  have hmI : (n : Int) * B = (m : Int) := by rw [← hm, Int.natCast_mul]
  rw [hm] at hnB
  obtain ⟨cW, hcW⟩ : ∃ cW, cW = (List.replicate m (Value.int .u64 0)).toArray := ⟨_, rfl⟩
  obtain ⟨cF, hcF⟩ : ∃ cF, cF = (List.replicate (n * 3) (Value.int .i64 0)).toArray := ⟨_, rfl⟩
  have mW : ∀ W : World, (Instr.makeSlice 32 (.int .i64 m) (.int .i64 m)).run Try.prog W = .ok (.slice (some ⟨W.heap.size, 0, none⟩) m m) (W.alloc (.cells cW 92)) := fun W => by rw [hcW]; exact run_mk Try.elW rfl m (by omega) (by omega) W
  have mF : ∀ W : World, (Instr.makeSlice 33 (.int .i64 n) (.int .i64 n)).run Try.prog W = .ok (.slice (some ⟨W.heap.size, 0, none⟩) n n) (W.alloc (.cells cF 43)) := fun W => by rw [hcF]; exact run_mkF n (by omega) W
  have zW : cW.size = m * 1 := by rw [hcW]; simp
  have zF : cF.size = n * 3 := by rw [hcF]; simp
  have HW := Lib.hid hcW
  have HF := Lib.hid hcF
  have Hm := Lib.hid hm
  have HB := Lib.hid hB
  have d1 : decide ((n : Int) < 2) = false := by (first | omega | (simp; done) | (simp; omega))
  have d1' : decide (n < 2) = false := by (first | omega | (simp; done) | (simp; omega))
  have d2 : decide ((64 : Int) < n) = false := by (first | omega | (simp; done) | (simp; omega))
  have d2' : decide (64 < n) = false := by (first | omega | (simp; done) | (simp; omega))
  clear hcW hcF hm hB
  go_enter Try.func24, Try.ntmps24
  go_upto_region 3 with (first | (go_at_call 35; refine (shift_any _ _ hsh).mono ?_; rintro e w1 ⟨rfl, rfl⟩))
  have kR : Blk (w.alloc (.cells #[.int .i64 0, .slice none 0 0, .slice none 0 0] 35)) w.heap.size 35 #[.int .i64 0, .slice none 0 0, .slice none 0 0] := Blk.new rfl
  have hE0 : Ext w (w.alloc (.cells #[.int .i64 0, .slice none 0 0, .slice none 0 0] 35)) := by (repeat (first | (with_reducible exact Ext.refl _) | assumption | (with_reducible refine Ext.alloc ?_ _) | (with_reducible refine Ext.drew ?_) | (with_reducible refine Ext.drewL ?_) | refine Ext.trans ?_ (by assumption)))
  generalize hW0 : w.alloc (.cells #[.int .i64 0, .slice none 0 0, .slice none 0 0] 35) = W at kR hE0 ⊢
  have hsz : w.heap.size + 1 ≤ W.heap.size := by rw [← hW0]; simp
  clear hW0
  obtain ⟨b0, hb0⟩ : ∃ b0, w.heap.size = b0 := ⟨_, rfl⟩
  rw [hb0] at kR hsz ⊢
  have Hb0 := Lib.hid hb0
  clear hb0
  go_cut [4, 6] (fun t4 t6 wx => ∃ o gW gF : Nat, t4 = .pointer (some ⟨b0, 0, none⟩) ∧ t6 = .pointer (some ⟨o, 0, none⟩) ∧ Blk wx o 35 #[.int .i64 sh, .slice (some ⟨gW, 0, none⟩) m m, .slice (some ⟨gF, 0, none⟩) n n] ∧ wx.ownsRow W.heap.size 92 1 (.slice (some ⟨gW, 0, none⟩) m m) m cW.toList ∧ wx.ownsRow W.heap.size 43 3 (.slice (some ⟨gF, 0, none⟩) n n) n cF.toList ∧ Ext W wx ∧ W.heap.size ≤ o ∧ gF ≠ o ∧ gW ≠ o)
  case first =>
    refine wp_region_treeN (W.heap.size) [] (.take 0 (.take 1 (.take 2 (.take 3 (.take 4 (.take 6 (.alt 5 (.alt 7 (.take 8 (.alt 9 (.alt 10 .done .none) .none)) (.alt 9 (.alt 7 (.take 8 (.alt 10 .done .none)) .none) .none)) (.alt 7 (.alt 5 (.take 8 (.alt 9 (.alt 10 .done .none) .none)) (.alt 9 (.alt 5 (.take 8 (.alt 10 .done .none)) .none) .none)) (.alt 9 (.alt 5 (.alt 7 (.take 8 (.alt 10 .done .none)) .none) (.alt 7 (.alt 5 (.take 8 (.alt 10 .done .none)) .none) .none)) .none))))))))) Try.mixed (by kernel_rfl) ?_
    intro hx
    first
      | (refine wpT_takeN hx (by simp) (v := ?_) (List.getElem?_toArray.trans (by rfl)) (by rfl) (fun _ hc => ?_) ?_
         rotate_left
         focus (go_simp; (try go_ints); exact rfl)
         simp only [Act.put, List.setIfInBounds_toArray, List.set_cons_zero, List.set_cons_succ])
      | (refine wpT_skip (List.getElem?_toArray.trans (by rfl)) (by rfl) ?_; simp only [Act.put, List.setIfInBounds_toArray, List.set_cons_zero, List.set_cons_succ])
    first
      | (refine wpT_takeN hx (by simp) (v := ?_) (List.getElem?_toArray.trans (by rfl)) (by rfl) (fun _ hc => ?_) ?_
         rotate_left
         focus (go_simp; (try go_ints); exact rfl)
         simp only [Act.put, List.setIfInBounds_toArray, List.set_cons_zero, List.set_cons_succ])
      | (refine wpT_skip (List.getElem?_toArray.trans (by rfl)) (by rfl) ?_; simp only [Act.put, List.setIfInBounds_toArray, List.set_cons_zero, List.set_cons_succ])
    first
      | (refine wpT_takeN hx (by simp) (v := ?_) (List.getElem?_toArray.trans (by rfl)) (by rfl) (fun _ hc => ?_) ?_
         rotate_left
         focus (go_simp; (try go_ints); exact rfl)
         simp only [Act.put, List.setIfInBounds_toArray, List.set_cons_zero, List.set_cons_succ])
      | (refine wpT_skip (List.getElem?_toArray.trans (by rfl)) (by rfl) ?_; simp only [Act.put, List.setIfInBounds_toArray, List.set_cons_zero, List.set_cons_succ])
    first
      | (refine wpT_takeN hx (by simp) (v := ?_) (List.getElem?_toArray.trans (by rfl)) (by rfl) (fun _ hc => ?_) ?_
         rotate_left
         focus (go_simp; (try go_ints); exact rfl)
         simp only [Act.put, List.setIfInBounds_toArray, List.set_cons_zero, List.set_cons_succ])
      | (refine wpT_skip (List.getElem?_toArray.trans (by rfl)) (by rfl) ?_; simp only [Act.put, List.setIfInBounds_toArray, List.set_cons_zero, List.set_cons_succ])
    first
      | (refine wpT_takeN hx (by simp) (v := ?_) (List.getElem?_toArray.trans (by rfl)) (by rfl) (fun _ hc => ?_) ?_
         rotate_left
         focus (go_simp; (try go_ints); exact rfl)
         simp only [Act.put, List.setIfInBounds_toArray, List.set_cons_zero, List.set_cons_succ])
      | (refine wpT_skip (List.getElem?_toArray.trans (by rfl)) (by rfl) ?_; simp only [Act.put, List.setIfInBounds_toArray, List.set_cons_zero, List.set_cons_succ])
    first
      | (refine wpT_takeN hx (by simp) (v := ?_) (List.getElem?_toArray.trans (by rfl)) (by rfl) (fun _ hc => ?_) ?_
         rotate_left
         focus (go_simp; (try go_ints); exact rfl)
         simp only [Act.put, List.setIfInBounds_toArray, List.set_cons_zero, List.set_cons_succ])
      | (refine wpT_skip (List.getElem?_toArray.trans (by rfl)) (by rfl) ?_; simp only [Act.put, List.setIfInBounds_toArray, List.set_cons_zero, List.set_cons_succ])
    refine wpT_call (List.getElem?_toArray.trans (by rfl)) (by rfl) (fun K hK => ?_) ?_
    · skip
      
      go_simp
      first | (refine hK _ _ ?_ ?_; (focus ((repeat (first | (with_reducible exact Bel.refl _ _ _) | assumption | (with_reducible exact Bel.alloc1 (by first | assumption | omega | (simp; omega))) | (with_reducible refine Bel.drew ?_) | (with_reducible refine Bel.drewL ?_) | (with_reducible refine Bel.setCell ?_ ?_ _; rotate_left; (focus (first | omega | (simp; done) | (simp; omega)))) | (with_reducible refine Bel.alloc ?_ _))); done))) | (refine hK undef _ ?_ ?_; (focus ((repeat (first | (with_reducible exact Bel.refl _ _ _) | assumption | (with_reducible exact Bel.alloc1 (by first | assumption | omega | (simp; omega))) | (with_reducible refine Bel.drew ?_) | (with_reducible refine Bel.drewL ?_) | (with_reducible refine Bel.setCell ?_ ?_ _; rotate_left; (focus (first | omega | (simp; done) | (simp; omega)))) | (with_reducible refine Bel.alloc ?_ _))); done)))
      clear hK
      intro hr
      (try have hW := own_bel (size := 1) (n := m) hr (by omega) zW); (try have hW := own_bel2 (size := 1) (n := m) hr (by omega) zW)
      replace hx := hx.trans hr
      clear hr
      try simp only [Act.put, List.setIfInBounds_toArray, List.set_cons_zero, List.set_cons_succ]
      refine wpT_call (List.getElem?_toArray.trans (by rfl)) (by rfl) (fun K hK => ?_) ?_
      · skip
        
        go_simp
        first | (refine hK _ _ ?_ ?_; (focus ((repeat (first | (with_reducible exact Bel.refl _ _ _) | assumption | (with_reducible exact Bel.alloc1 (by first | assumption | omega | (simp; omega))) | (with_reducible refine Bel.drew ?_) | (with_reducible refine Bel.drewL ?_) | (with_reducible refine Bel.setCell ?_ ?_ _; rotate_left; (focus (first | omega | (simp; done) | (simp; omega)))) | (with_reducible refine Bel.alloc ?_ _))); done))) | (refine hK undef _ ?_ ?_; (focus ((repeat (first | (with_reducible exact Bel.refl _ _ _) | assumption | (with_reducible exact Bel.alloc1 (by first | assumption | omega | (simp; omega))) | (with_reducible refine Bel.drew ?_) | (with_reducible refine Bel.drewL ?_) | (with_reducible refine Bel.setCell ?_ ?_ _; rotate_left; (focus (first | omega | (simp; done) | (simp; omega)))) | (with_reducible refine Bel.alloc ?_ _))); done)))
        clear hK
        intro hr
        (try have hF := own_bel (size := 3) (n := n) hr (by omega) zF); (try have hF := own_bel2 (size := 3) (n := n) hr (by omega) zF)
        replace hx := hx.trans hr
        clear hr
        try simp only [Act.put, List.setIfInBounds_toArray, List.set_cons_zero, List.set_cons_succ]
        first
          | (refine wpT_takeN hx (by simp) (v := ?_) (List.getElem?_toArray.trans (by rfl)) (by rfl) (fun _ hc => ?_) ?_
             rotate_left
             focus (go_simp; (try go_ints); exact rfl)
             simp only [Act.put, List.setIfInBounds_toArray, List.set_cons_zero, List.set_cons_succ])
          | (refine wpT_skip (List.getElem?_toArray.trans (by rfl)) (by rfl) ?_; simp only [Act.put, List.setIfInBounds_toArray, List.set_cons_zero, List.set_cons_succ])
        refine wpT_call (List.getElem?_toArray.trans (by rfl)) (by rfl) (fun K hK => ?_) ?_
        · skip
          go_simp
          first | (refine hK _ _ ?_ ?_; (focus ((repeat (first | (with_reducible exact Bel.refl _ _ _) | assumption | (with_reducible exact Bel.alloc1 (by first | assumption | omega | (simp; omega))) | (with_reducible refine Bel.drew ?_) | (with_reducible refine Bel.drewL ?_) | (with_reducible refine Bel.setCell ?_ ?_ _; rotate_left; (focus (first | omega | (simp; done) | (simp; omega)))) | (with_reducible refine Bel.alloc ?_ _))); done))) | (refine hK undef _ ?_ ?_; (focus ((repeat (first | (with_reducible exact Bel.refl _ _ _) | assumption | (with_reducible exact Bel.alloc1 (by first | assumption | omega | (simp; omega))) | (with_reducible refine Bel.drew ?_) | (with_reducible refine Bel.drewL ?_) | (with_reducible refine Bel.setCell ?_ ?_ _; rotate_left; (focus (first | omega | (simp; done) | (simp; omega)))) | (with_reducible refine Bel.alloc ?_ _))); done)))
          clear hK
          intro hr
          replace hx := hx.trans hr
          clear hr
          try simp only [Act.put, List.setIfInBounds_toArray, List.set_cons_zero, List.set_cons_succ]
          refine wpT_store (List.getElem?_toArray.trans (by rfl)) rfl (by rfl) (fun K hK => ?_) ?_
          · skip
            
            go_simp
            refine hK _ ?_ ?_
            focus (exact (by repeat (first | exact Bel.refl _ _ _ | exact Bel.alloc1 (by first | assumption | omega | (simp; done) | (simp; omega)) | refine Bel.drew ?_ | refine Bel.drewL ?_ | refine Bel.both ?_ (by first | omega | (simp; done) | (simp; omega)) | (refine Bel.setCell ?_ ?_ _; rotate_left; (focus (first | omega | (simp; done) | (simp; omega)))))); done)
            clear hK
            intro hr
            replace hx := hx.trans hr
            clear hr
            try simp only [Act.put, List.setIfInBounds_toArray, List.set_cons_zero, List.set_cons_succ]
            refine wpT_done ?_
            go_wp2
            go_meet
            refine pack_new hW hF ?_ ?_ ?_ ?_ ?_ ?_ ?_ (ext_bel hx) ?_
            · first
                | ((repeat (first | assumption | (with_reducible refine Blk.new ?_; (focus (simp; done))) | (with_reducible exact Blk.new rfl) | (with_reducible refine Blk.drew ?_) | (with_reducible refine Blk.alloc ?_ _) | refine Blk.ext ?_ (by assumption))); done)
                | (simp only [alloc_sz]; (repeat (first | assumption | (with_reducible refine Blk.new ?_; (focus (simp; done))) | (with_reducible exact Blk.new rfl) | (with_reducible refine Blk.drew ?_) | (with_reducible refine Blk.alloc ?_ _) | refine Blk.ext ?_ (by assumption))); done)
            · (repeat (first | (with_reducible exact But.refl _ _) | assumption | (with_reducible refine But.drew ?_) | (with_reducible refine But.drewL ?_) | (with_reducible refine But.setCell ?_ ?_ _; rotate_left; (focus (simp; done))) | (with_reducible refine But.setCellL ?_ ?_; rotate_left; (focus (simp; done))) | (with_reducible refine But.alloc2 ?_ ?_; rotate_left; (focus (simp [World.setCell]; done))) | (with_reducible refine But.allocL ?_ ?_ ?_; rotate_left; (focus (simp; done)); (focus (simp; done))) | (with_reducible refine But.alloc ?_ _)))
            · (repeat (first | (with_reducible exact But.refl _ _) | assumption | (with_reducible refine But.drew ?_) | (with_reducible refine But.drewL ?_) | (with_reducible refine But.setCell ?_ ?_ _; rotate_left; (focus (simp; done))) | (with_reducible refine But.setCellL ?_ ?_; rotate_left; (focus (simp; done))) | (with_reducible refine But.alloc2 ?_ ?_; rotate_left; (focus (simp [World.setCell]; done))) | (with_reducible refine But.allocL ?_ ?_ ?_; rotate_left; (focus (simp; done)); (focus (simp; done))) | (with_reducible refine But.alloc ?_ _)))
            · (first | omega | (simp; done) | (simp; omega))
            · (first | omega | (simp; done) | (simp; omega))
            · (first | omega | (simp; done) | (simp; omega))
            · (first | omega | (simp; done) | (simp; omega))
            · (first | omega | (simp; done) | (simp; omega))
          exact wpT_none
        exact wpT_none
      refine wpT_call (List.getElem?_toArray.trans (by rfl)) (by rfl) (fun K hK => ?_) ?_
      · skip
        go_simp
        first | (refine hK _ _ ?_ ?_; (focus ((repeat (first | (with_reducible exact Bel.refl _ _ _) | assumption | (with_reducible exact Bel.alloc1 (by first | assumption | omega | (simp; omega))) | (with_reducible refine Bel.drew ?_) | (with_reducible refine Bel.drewL ?_) | (with_reducible refine Bel.setCell ?_ ?_ _; rotate_left; (focus (first | omega | (simp; done) | (simp; omega)))) | (with_reducible refine Bel.alloc ?_ _))); done))) | (refine hK undef _ ?_ ?_; (focus ((repeat (first | (with_reducible exact Bel.refl _ _ _) | assumption | (with_reducible exact Bel.alloc1 (by first | assumption | omega | (simp; omega))) | (with_reducible refine Bel.drew ?_) | (with_reducible refine Bel.drewL ?_) | (with_reducible refine Bel.setCell ?_ ?_ _; rotate_left; (focus (first | omega | (simp; done) | (simp; omega)))) | (with_reducible refine Bel.alloc ?_ _))); done)))
        clear hK
        intro hr
        replace hx := hx.trans hr
        clear hr
        try simp only [Act.put, List.setIfInBounds_toArray, List.set_cons_zero, List.set_cons_succ]
        refine wpT_call (List.getElem?_toArray.trans (by rfl)) (by rfl) (fun K hK => ?_) ?_
        · skip
          
          go_simp
          first | (refine hK _ _ ?_ ?_; (focus ((repeat (first | (with_reducible exact Bel.refl _ _ _) | assumption | (with_reducible exact Bel.alloc1 (by first | assumption | omega | (simp; omega))) | (with_reducible refine Bel.drew ?_) | (with_reducible refine Bel.drewL ?_) | (with_reducible refine Bel.setCell ?_ ?_ _; rotate_left; (focus (first | omega | (simp; done) | (simp; omega)))) | (with_reducible refine Bel.alloc ?_ _))); done))) | (refine hK undef _ ?_ ?_; (focus ((repeat (first | (with_reducible exact Bel.refl _ _ _) | assumption | (with_reducible exact Bel.alloc1 (by first | assumption | omega | (simp; omega))) | (with_reducible refine Bel.drew ?_) | (with_reducible refine Bel.drewL ?_) | (with_reducible refine Bel.setCell ?_ ?_ _; rotate_left; (focus (first | omega | (simp; done) | (simp; omega)))) | (with_reducible refine Bel.alloc ?_ _))); done)))
          clear hK
          intro hr
          (try have hF := own_bel (size := 3) (n := n) hr (by omega) zF); (try have hF := own_bel2 (size := 3) (n := n) hr (by omega) zF)
          replace hx := hx.trans hr
          clear hr
          try simp only [Act.put, List.setIfInBounds_toArray, List.set_cons_zero, List.set_cons_succ]
          first
            | (refine wpT_takeN hx (by simp) (v := ?_) (List.getElem?_toArray.trans (by rfl)) (by rfl) (fun _ hc => ?_) ?_
               rotate_left
               focus (go_simp; (try go_ints); exact rfl)
               simp only [Act.put, List.setIfInBounds_toArray, List.set_cons_zero, List.set_cons_succ])
            | (refine wpT_skip (List.getElem?_toArray.trans (by rfl)) (by rfl) ?_; simp only [Act.put, List.setIfInBounds_toArray, List.set_cons_zero, List.set_cons_succ])
          refine wpT_store (List.getElem?_toArray.trans (by rfl)) rfl (by rfl) (fun K hK => ?_) ?_
          · skip
            
            go_simp
            refine hK _ ?_ ?_
            focus (exact (by repeat (first | exact Bel.refl _ _ _ | exact Bel.alloc1 (by first | assumption | omega | (simp; done) | (simp; omega)) | refine Bel.drew ?_ | refine Bel.drewL ?_ | refine Bel.both ?_ (by first | omega | (simp; done) | (simp; omega)) | (refine Bel.setCell ?_ ?_ _; rotate_left; (focus (first | omega | (simp; done) | (simp; omega)))))); done)
            clear hK
            intro hr
            replace hx := hx.trans hr
            clear hr
            try simp only [Act.put, List.setIfInBounds_toArray, List.set_cons_zero, List.set_cons_succ]
            refine wpT_done ?_
            go_wp2
            go_meet
            refine pack_new hW hF ?_ ?_ ?_ ?_ ?_ ?_ ?_ (ext_bel hx) ?_
            · first
                | ((repeat (first | assumption | (with_reducible refine Blk.new ?_; (focus (simp; done))) | (with_reducible exact Blk.new rfl) | (with_reducible refine Blk.drew ?_) | (with_reducible refine Blk.alloc ?_ _) | refine Blk.ext ?_ (by assumption))); done)
                | (simp only [alloc_sz]; (repeat (first | assumption | (with_reducible refine Blk.new ?_; (focus (simp; done))) | (with_reducible exact Blk.new rfl) | (with_reducible refine Blk.drew ?_) | (with_reducible refine Blk.alloc ?_ _) | refine Blk.ext ?_ (by assumption))); done)
            · (repeat (first | (with_reducible exact But.refl _ _) | assumption | (with_reducible refine But.drew ?_) | (with_reducible refine But.drewL ?_) | (with_reducible refine But.setCell ?_ ?_ _; rotate_left; (focus (simp; done))) | (with_reducible refine But.setCellL ?_ ?_; rotate_left; (focus (simp; done))) | (with_reducible refine But.alloc2 ?_ ?_; rotate_left; (focus (simp [World.setCell]; done))) | (with_reducible refine But.allocL ?_ ?_ ?_; rotate_left; (focus (simp; done)); (focus (simp; done))) | (with_reducible refine But.alloc ?_ _)))
            · (repeat (first | (with_reducible exact But.refl _ _) | assumption | (with_reducible refine But.drew ?_) | (with_reducible refine But.drewL ?_) | (with_reducible refine But.setCell ?_ ?_ _; rotate_left; (focus (simp; done))) | (with_reducible refine But.setCellL ?_ ?_; rotate_left; (focus (simp; done))) | (with_reducible refine But.alloc2 ?_ ?_; rotate_left; (focus (simp [World.setCell]; done))) | (with_reducible refine But.allocL ?_ ?_ ?_; rotate_left; (focus (simp; done)); (focus (simp; done))) | (with_reducible refine But.alloc ?_ _)))
            · (first | omega | (simp; done) | (simp; omega))
            · (first | omega | (simp; done) | (simp; omega))
            · (first | omega | (simp; done) | (simp; omega))
            · (first | omega | (simp; done) | (simp; omega))
            · (first | omega | (simp; done) | (simp; omega))
          exact wpT_none
        exact wpT_none
      exact wpT_none
    refine wpT_call (List.getElem?_toArray.trans (by rfl)) (by rfl) (fun K hK => ?_) ?_
    · skip
      
      go_simp
      first | (refine hK _ _ ?_ ?_; (focus ((repeat (first | (with_reducible exact Bel.refl _ _ _) | assumption | (with_reducible exact Bel.alloc1 (by first | assumption | omega | (simp; omega))) | (with_reducible refine Bel.drew ?_) | (with_reducible refine Bel.drewL ?_) | (with_reducible refine Bel.setCell ?_ ?_ _; rotate_left; (focus (first | omega | (simp; done) | (simp; omega)))) | (with_reducible refine Bel.alloc ?_ _))); done))) | (refine hK undef _ ?_ ?_; (focus ((repeat (first | (with_reducible exact Bel.refl _ _ _) | assumption | (with_reducible exact Bel.alloc1 (by first | assumption | omega | (simp; omega))) | (with_reducible refine Bel.drew ?_) | (with_reducible refine Bel.drewL ?_) | (with_reducible refine Bel.setCell ?_ ?_ _; rotate_left; (focus (first | omega | (simp; done) | (simp; omega)))) | (with_reducible refine Bel.alloc ?_ _))); done)))
      clear hK
      intro hr
      (try have hF := own_bel (size := 3) (n := n) hr (by omega) zF); (try have hF := own_bel2 (size := 3) (n := n) hr (by omega) zF)
      replace hx := hx.trans hr
      clear hr
      try simp only [Act.put, List.setIfInBounds_toArray, List.set_cons_zero, List.set_cons_succ]
      refine wpT_call (List.getElem?_toArray.trans (by rfl)) (by rfl) (fun K hK => ?_) ?_
      · skip
        
        go_simp
        first | (refine hK _ _ ?_ ?_; (focus ((repeat (first | (with_reducible exact Bel.refl _ _ _) | assumption | (with_reducible exact Bel.alloc1 (by first | assumption | omega | (simp; omega))) | (with_reducible refine Bel.drew ?_) | (with_reducible refine Bel.drewL ?_) | (with_reducible refine Bel.setCell ?_ ?_ _; rotate_left; (focus (first | omega | (simp; done) | (simp; omega)))) | (with_reducible refine Bel.alloc ?_ _))); done))) | (refine hK undef _ ?_ ?_; (focus ((repeat (first | (with_reducible exact Bel.refl _ _ _) | assumption | (with_reducible exact Bel.alloc1 (by first | assumption | omega | (simp; omega))) | (with_reducible refine Bel.drew ?_) | (with_reducible refine Bel.drewL ?_) | (with_reducible refine Bel.setCell ?_ ?_ _; rotate_left; (focus (first | omega | (simp; done) | (simp; omega)))) | (with_reducible refine Bel.alloc ?_ _))); done)))
        clear hK
        intro hr
        (try have hW := own_bel (size := 1) (n := m) hr (by omega) zW); (try have hW := own_bel2 (size := 1) (n := m) hr (by omega) zW)
        replace hx := hx.trans hr
        clear hr
        try simp only [Act.put, List.setIfInBounds_toArray, List.set_cons_zero, List.set_cons_succ]
        first
          | (refine wpT_takeN hx (by simp) (v := ?_) (List.getElem?_toArray.trans (by rfl)) (by rfl) (fun _ hc => ?_) ?_
             rotate_left
             focus (go_simp; (try go_ints); exact rfl)
             simp only [Act.put, List.setIfInBounds_toArray, List.set_cons_zero, List.set_cons_succ])
          | (refine wpT_skip (List.getElem?_toArray.trans (by rfl)) (by rfl) ?_; simp only [Act.put, List.setIfInBounds_toArray, List.set_cons_zero, List.set_cons_succ])
        refine wpT_call (List.getElem?_toArray.trans (by rfl)) (by rfl) (fun K hK => ?_) ?_
        · skip
          go_simp
          first | (refine hK _ _ ?_ ?_; (focus ((repeat (first | (with_reducible exact Bel.refl _ _ _) | assumption | (with_reducible exact Bel.alloc1 (by first | assumption | omega | (simp; omega))) | (with_reducible refine Bel.drew ?_) | (with_reducible refine Bel.drewL ?_) | (with_reducible refine Bel.setCell ?_ ?_ _; rotate_left; (focus (first | omega | (simp; done) | (simp; omega)))) | (with_reducible refine Bel.alloc ?_ _))); done))) | (refine hK undef _ ?_ ?_; (focus ((repeat (first | (with_reducible exact Bel.refl _ _ _) | assumption | (with_reducible exact Bel.alloc1 (by first | assumption | omega | (simp; omega))) | (with_reducible refine Bel.drew ?_) | (with_reducible refine Bel.drewL ?_) | (with_reducible refine Bel.setCell ?_ ?_ _; rotate_left; (focus (first | omega | (simp; done) | (simp; omega)))) | (with_reducible refine Bel.alloc ?_ _))); done)))
          clear hK
          intro hr
          replace hx := hx.trans hr
          clear hr
          try simp only [Act.put, List.setIfInBounds_toArray, List.set_cons_zero, List.set_cons_succ]
          refine wpT_store (List.getElem?_toArray.trans (by rfl)) rfl (by rfl) (fun K hK => ?_) ?_
          · skip
            
            go_simp
            refine hK _ ?_ ?_
            focus (exact (by repeat (first | exact Bel.refl _ _ _ | exact Bel.alloc1 (by first | assumption | omega | (simp; done) | (simp; omega)) | refine Bel.drew ?_ | refine Bel.drewL ?_ | refine Bel.both ?_ (by first | omega | (simp; done) | (simp; omega)) | (refine Bel.setCell ?_ ?_ _; rotate_left; (focus (first | omega | (simp; done) | (simp; omega)))))); done)
            clear hK
            intro hr
            replace hx := hx.trans hr
            clear hr
            try simp only [Act.put, List.setIfInBounds_toArray, List.set_cons_zero, List.set_cons_succ]
            refine wpT_done ?_
            go_wp2
            go_meet
            refine pack_new hW hF ?_ ?_ ?_ ?_ ?_ ?_ ?_ (ext_bel hx) ?_
            · first
                | ((repeat (first | assumption | (with_reducible refine Blk.new ?_; (focus (simp; done))) | (with_reducible exact Blk.new rfl) | (with_reducible refine Blk.drew ?_) | (with_reducible refine Blk.alloc ?_ _) | refine Blk.ext ?_ (by assumption))); done)
                | (simp only [alloc_sz]; (repeat (first | assumption | (with_reducible refine Blk.new ?_; (focus (simp; done))) | (with_reducible exact Blk.new rfl) | (with_reducible refine Blk.drew ?_) | (with_reducible refine Blk.alloc ?_ _) | refine Blk.ext ?_ (by assumption))); done)
            · (repeat (first | (with_reducible exact But.refl _ _) | assumption | (with_reducible refine But.drew ?_) | (with_reducible refine But.drewL ?_) | (with_reducible refine But.setCell ?_ ?_ _; rotate_left; (focus (simp; done))) | (with_reducible refine But.setCellL ?_ ?_; rotate_left; (focus (simp; done))) | (with_reducible refine But.alloc2 ?_ ?_; rotate_left; (focus (simp [World.setCell]; done))) | (with_reducible refine But.allocL ?_ ?_ ?_; rotate_left; (focus (simp; done)); (focus (simp; done))) | (with_reducible refine But.alloc ?_ _)))
            · (repeat (first | (with_reducible exact But.refl _ _) | assumption | (with_reducible refine But.drew ?_) | (with_reducible refine But.drewL ?_) | (with_reducible refine But.setCell ?_ ?_ _; rotate_left; (focus (simp; done))) | (with_reducible refine But.setCellL ?_ ?_; rotate_left; (focus (simp; done))) | (with_reducible refine But.alloc2 ?_ ?_; rotate_left; (focus (simp [World.setCell]; done))) | (with_reducible refine But.allocL ?_ ?_ ?_; rotate_left; (focus (simp; done)); (focus (simp; done))) | (with_reducible refine But.alloc ?_ _)))
            · (first | omega | (simp; done) | (simp; omega))
            · (first | omega | (simp; done) | (simp; omega))
            · (first | omega | (simp; done) | (simp; omega))
            · (first | omega | (simp; done) | (simp; omega))
            · (first | omega | (simp; done) | (simp; omega))
          exact wpT_none
        exact wpT_none
      refine wpT_call (List.getElem?_toArray.trans (by rfl)) (by rfl) (fun K hK => ?_) ?_
      · skip
        go_simp
        first | (refine hK _ _ ?_ ?_; (focus ((repeat (first | (with_reducible exact Bel.refl _ _ _) | assumption | (with_reducible exact Bel.alloc1 (by first | assumption | omega | (simp; omega))) | (with_reducible refine Bel.drew ?_) | (with_reducible refine Bel.drewL ?_) | (with_reducible refine Bel.setCell ?_ ?_ _; rotate_left; (focus (first | omega | (simp; done) | (simp; omega)))) | (with_reducible refine Bel.alloc ?_ _))); done))) | (refine hK undef _ ?_ ?_; (focus ((repeat (first | (with_reducible exact Bel.refl _ _ _) | assumption | (with_reducible exact Bel.alloc1 (by first | assumption | omega | (simp; omega))) | (with_reducible refine Bel.drew ?_) | (with_reducible refine Bel.drewL ?_) | (with_reducible refine Bel.setCell ?_ ?_ _; rotate_left; (focus (first | omega | (simp; done) | (simp; omega)))) | (with_reducible refine Bel.alloc ?_ _))); done)))
        clear hK
        intro hr
        replace hx := hx.trans hr
        clear hr
        try simp only [Act.put, List.setIfInBounds_toArray, List.set_cons_zero, List.set_cons_succ]
        refine wpT_call (List.getElem?_toArray.trans (by rfl)) (by rfl) (fun K hK => ?_) ?_
        · skip
          
          go_simp
          first | (refine hK _ _ ?_ ?_; (focus ((repeat (first | (with_reducible exact Bel.refl _ _ _) | assumption | (with_reducible exact Bel.alloc1 (by first | assumption | omega | (simp; omega))) | (with_reducible refine Bel.drew ?_) | (with_reducible refine Bel.drewL ?_) | (with_reducible refine Bel.setCell ?_ ?_ _; rotate_left; (focus (first | omega | (simp; done) | (simp; omega)))) | (with_reducible refine Bel.alloc ?_ _))); done))) | (refine hK undef _ ?_ ?_; (focus ((repeat (first | (with_reducible exact Bel.refl _ _ _) | assumption | (with_reducible exact Bel.alloc1 (by first | assumption | omega | (simp; omega))) | (with_reducible refine Bel.drew ?_) | (with_reducible refine Bel.drewL ?_) | (with_reducible refine Bel.setCell ?_ ?_ _; rotate_left; (focus (first | omega | (simp; done) | (simp; omega)))) | (with_reducible refine Bel.alloc ?_ _))); done)))
          clear hK
          intro hr
          (try have hW := own_bel (size := 1) (n := m) hr (by omega) zW); (try have hW := own_bel2 (size := 1) (n := m) hr (by omega) zW)
          replace hx := hx.trans hr
          clear hr
          try simp only [Act.put, List.setIfInBounds_toArray, List.set_cons_zero, List.set_cons_succ]
          first
            | (refine wpT_takeN hx (by simp) (v := ?_) (List.getElem?_toArray.trans (by rfl)) (by rfl) (fun _ hc => ?_) ?_
               rotate_left
               focus (go_simp; (try go_ints); exact rfl)
               simp only [Act.put, List.setIfInBounds_toArray, List.set_cons_zero, List.set_cons_succ])
            | (refine wpT_skip (List.getElem?_toArray.trans (by rfl)) (by rfl) ?_; simp only [Act.put, List.setIfInBounds_toArray, List.set_cons_zero, List.set_cons_succ])
          refine wpT_store (List.getElem?_toArray.trans (by rfl)) rfl (by rfl) (fun K hK => ?_) ?_
          · skip
            
            go_simp
            refine hK _ ?_ ?_
            focus (exact (by repeat (first | exact Bel.refl _ _ _ | exact Bel.alloc1 (by first | assumption | omega | (simp; done) | (simp; omega)) | refine Bel.drew ?_ | refine Bel.drewL ?_ | refine Bel.both ?_ (by first | omega | (simp; done) | (simp; omega)) | (refine Bel.setCell ?_ ?_ _; rotate_left; (focus (first | omega | (simp; done) | (simp; omega)))))); done)
            clear hK
            intro hr
            replace hx := hx.trans hr
            clear hr
            try simp only [Act.put, List.setIfInBounds_toArray, List.set_cons_zero, List.set_cons_succ]
            refine wpT_done ?_
            go_wp2
            go_meet
            refine pack_new hW hF ?_ ?_ ?_ ?_ ?_ ?_ ?_ (ext_bel hx) ?_
            · first
                | ((repeat (first | assumption | (with_reducible refine Blk.new ?_; (focus (simp; done))) | (with_reducible exact Blk.new rfl) | (with_reducible refine Blk.drew ?_) | (with_reducible refine Blk.alloc ?_ _) | refine Blk.ext ?_ (by assumption))); done)
                | (simp only [alloc_sz]; (repeat (first | assumption | (with_reducible refine Blk.new ?_; (focus (simp; done))) | (with_reducible exact Blk.new rfl) | (with_reducible refine Blk.drew ?_) | (with_reducible refine Blk.alloc ?_ _) | refine Blk.ext ?_ (by assumption))); done)
            · (repeat (first | (with_reducible exact But.refl _ _) | assumption | (with_reducible refine But.drew ?_) | (with_reducible refine But.drewL ?_) | (with_reducible refine But.setCell ?_ ?_ _; rotate_left; (focus (simp; done))) | (with_reducible refine But.setCellL ?_ ?_; rotate_left; (focus (simp; done))) | (with_reducible refine But.alloc2 ?_ ?_; rotate_left; (focus (simp [World.setCell]; done))) | (with_reducible refine But.allocL ?_ ?_ ?_; rotate_left; (focus (simp; done)); (focus (simp; done))) | (with_reducible refine But.alloc ?_ _)))
            · (repeat (first | (with_reducible exact But.refl _ _) | assumption | (with_reducible refine But.drew ?_) | (with_reducible refine But.drewL ?_) | (with_reducible refine But.setCell ?_ ?_ _; rotate_left; (focus (simp; done))) | (with_reducible refine But.setCellL ?_ ?_; rotate_left; (focus (simp; done))) | (with_reducible refine But.alloc2 ?_ ?_; rotate_left; (focus (simp [World.setCell]; done))) | (with_reducible refine But.allocL ?_ ?_ ?_; rotate_left; (focus (simp; done)); (focus (simp; done))) | (with_reducible refine But.alloc ?_ _)))
            · (first | omega | (simp; done) | (simp; omega))
            · (first | omega | (simp; done) | (simp; omega))
            · (first | omega | (simp; done) | (simp; omega))
            · (first | omega | (simp; done) | (simp; omega))
            · (first | omega | (simp; done) | (simp; omega))
          exact wpT_none
        exact wpT_none
      exact wpT_none
    refine wpT_call (List.getElem?_toArray.trans (by rfl)) (by rfl) (fun K hK => ?_) ?_
    · skip
      go_simp
      first | (refine hK _ _ ?_ ?_; (focus ((repeat (first | (with_reducible exact Bel.refl _ _ _) | assumption | (with_reducible exact Bel.alloc1 (by first | assumption | omega | (simp; omega))) | (with_reducible refine Bel.drew ?_) | (with_reducible refine Bel.drewL ?_) | (with_reducible refine Bel.setCell ?_ ?_ _; rotate_left; (focus (first | omega | (simp; done) | (simp; omega)))) | (with_reducible refine Bel.alloc ?_ _))); done))) | (refine hK undef _ ?_ ?_; (focus ((repeat (first | (with_reducible exact Bel.refl _ _ _) | assumption | (with_reducible exact Bel.alloc1 (by first | assumption | omega | (simp; omega))) | (with_reducible refine Bel.drew ?_) | (with_reducible refine Bel.drewL ?_) | (with_reducible refine Bel.setCell ?_ ?_ _; rotate_left; (focus (first | omega | (simp; done) | (simp; omega)))) | (with_reducible refine Bel.alloc ?_ _))); done)))
      clear hK
      intro hr
      replace hx := hx.trans hr
      clear hr
      try simp only [Act.put, List.setIfInBounds_toArray, List.set_cons_zero, List.set_cons_succ]
      refine wpT_call (List.getElem?_toArray.trans (by rfl)) (by rfl) (fun K hK => ?_) ?_
      · skip
        
        go_simp
        first | (refine hK _ _ ?_ ?_; (focus ((repeat (first | (with_reducible exact Bel.refl _ _ _) | assumption | (with_reducible exact Bel.alloc1 (by first | assumption | omega | (simp; omega))) | (with_reducible refine Bel.drew ?_) | (with_reducible refine Bel.drewL ?_) | (with_reducible refine Bel.setCell ?_ ?_ _; rotate_left; (focus (first | omega | (simp; done) | (simp; omega)))) | (with_reducible refine Bel.alloc ?_ _))); done))) | (refine hK undef _ ?_ ?_; (focus ((repeat (first | (with_reducible exact Bel.refl _ _ _) | assumption | (with_reducible exact Bel.alloc1 (by first | assumption | omega | (simp; omega))) | (with_reducible refine Bel.drew ?_) | (with_reducible refine Bel.drewL ?_) | (with_reducible refine Bel.setCell ?_ ?_ _; rotate_left; (focus (first | omega | (simp; done) | (simp; omega)))) | (with_reducible refine Bel.alloc ?_ _))); done)))
        clear hK
        intro hr
        (try have hW := own_bel (size := 1) (n := m) hr (by omega) zW); (try have hW := own_bel2 (size := 1) (n := m) hr (by omega) zW)
        replace hx := hx.trans hr
        clear hr
        try simp only [Act.put, List.setIfInBounds_toArray, List.set_cons_zero, List.set_cons_succ]
        refine wpT_call (List.getElem?_toArray.trans (by rfl)) (by rfl) (fun K hK => ?_) ?_
        · skip
          
          go_simp
          first | (refine hK _ _ ?_ ?_; (focus ((repeat (first | (with_reducible exact Bel.refl _ _ _) | assumption | (with_reducible exact Bel.alloc1 (by first | assumption | omega | (simp; omega))) | (with_reducible refine Bel.drew ?_) | (with_reducible refine Bel.drewL ?_) | (with_reducible refine Bel.setCell ?_ ?_ _; rotate_left; (focus (first | omega | (simp; done) | (simp; omega)))) | (with_reducible refine Bel.alloc ?_ _))); done))) | (refine hK undef _ ?_ ?_; (focus ((repeat (first | (with_reducible exact Bel.refl _ _ _) | assumption | (with_reducible exact Bel.alloc1 (by first | assumption | omega | (simp; omega))) | (with_reducible refine Bel.drew ?_) | (with_reducible refine Bel.drewL ?_) | (with_reducible refine Bel.setCell ?_ ?_ _; rotate_left; (focus (first | omega | (simp; done) | (simp; omega)))) | (with_reducible refine Bel.alloc ?_ _))); done)))
          clear hK
          intro hr
          (try have hF := own_bel (size := 3) (n := n) hr (by omega) zF); (try have hF := own_bel2 (size := 3) (n := n) hr (by omega) zF)
          replace hx := hx.trans hr
          clear hr
          try simp only [Act.put, List.setIfInBounds_toArray, List.set_cons_zero, List.set_cons_succ]
          first
            | (refine wpT_takeN hx (by simp) (v := ?_) (List.getElem?_toArray.trans (by rfl)) (by rfl) (fun _ hc => ?_) ?_
               rotate_left
               focus (go_simp; (try go_ints); exact rfl)
               simp only [Act.put, List.setIfInBounds_toArray, List.set_cons_zero, List.set_cons_succ])
            | (refine wpT_skip (List.getElem?_toArray.trans (by rfl)) (by rfl) ?_; simp only [Act.put, List.setIfInBounds_toArray, List.set_cons_zero, List.set_cons_succ])
          refine wpT_store (List.getElem?_toArray.trans (by rfl)) rfl (by rfl) (fun K hK => ?_) ?_
          · skip
            
            go_simp
            refine hK _ ?_ ?_
            focus (exact (by repeat (first | exact Bel.refl _ _ _ | exact Bel.alloc1 (by first | assumption | omega | (simp; done) | (simp; omega)) | refine Bel.drew ?_ | refine Bel.drewL ?_ | refine Bel.both ?_ (by first | omega | (simp; done) | (simp; omega)) | (refine Bel.setCell ?_ ?_ _; rotate_left; (focus (first | omega | (simp; done) | (simp; omega)))))); done)
            clear hK
            intro hr
            replace hx := hx.trans hr
            clear hr
            try simp only [Act.put, List.setIfInBounds_toArray, List.set_cons_zero, List.set_cons_succ]
            refine wpT_done ?_
            go_wp2
            go_meet
            refine pack_new hW hF ?_ ?_ ?_ ?_ ?_ ?_ ?_ (ext_bel hx) ?_
            · first
                | ((repeat (first | assumption | (with_reducible refine Blk.new ?_; (focus (simp; done))) | (with_reducible exact Blk.new rfl) | (with_reducible refine Blk.drew ?_) | (with_reducible refine Blk.alloc ?_ _) | refine Blk.ext ?_ (by assumption))); done)
                | (simp only [alloc_sz]; (repeat (first | assumption | (with_reducible refine Blk.new ?_; (focus (simp; done))) | (with_reducible exact Blk.new rfl) | (with_reducible refine Blk.drew ?_) | (with_reducible refine Blk.alloc ?_ _) | refine Blk.ext ?_ (by assumption))); done)
            · (repeat (first | (with_reducible exact But.refl _ _) | assumption | (with_reducible refine But.drew ?_) | (with_reducible refine But.drewL ?_) | (with_reducible refine But.setCell ?_ ?_ _; rotate_left; (focus (simp; done))) | (with_reducible refine But.setCellL ?_ ?_; rotate_left; (focus (simp; done))) | (with_reducible refine But.alloc2 ?_ ?_; rotate_left; (focus (simp [World.setCell]; done))) | (with_reducible refine But.allocL ?_ ?_ ?_; rotate_left; (focus (simp; done)); (focus (simp; done))) | (with_reducible refine But.alloc ?_ _)))
            · (repeat (first | (with_reducible exact But.refl _ _) | assumption | (with_reducible refine But.drew ?_) | (with_reducible refine But.drewL ?_) | (with_reducible refine But.setCell ?_ ?_ _; rotate_left; (focus (simp; done))) | (with_reducible refine But.setCellL ?_ ?_; rotate_left; (focus (simp; done))) | (with_reducible refine But.alloc2 ?_ ?_; rotate_left; (focus (simp [World.setCell]; done))) | (with_reducible refine But.allocL ?_ ?_ ?_; rotate_left; (focus (simp; done)); (focus (simp; done))) | (with_reducible refine But.alloc ?_ _)))
            · (first | omega | (simp; done) | (simp; omega))
            · (first | omega | (simp; done) | (simp; omega))
            · (first | omega | (simp; done) | (simp; omega))
            · (first | omega | (simp; done) | (simp; omega))
            · (first | omega | (simp; done) | (simp; omega))
          exact wpT_none
        exact wpT_none
      refine wpT_call (List.getElem?_toArray.trans (by rfl)) (by rfl) (fun K hK => ?_) ?_
      · skip
        
        go_simp
        first | (refine hK _ _ ?_ ?_; (focus ((repeat (first | (with_reducible exact Bel.refl _ _ _) | assumption | (with_reducible exact Bel.alloc1 (by first | assumption | omega | (simp; omega))) | (with_reducible refine Bel.drew ?_) | (with_reducible refine Bel.drewL ?_) | (with_reducible refine Bel.setCell ?_ ?_ _; rotate_left; (focus (first | omega | (simp; done) | (simp; omega)))) | (with_reducible refine Bel.alloc ?_ _))); done))) | (refine hK undef _ ?_ ?_; (focus ((repeat (first | (with_reducible exact Bel.refl _ _ _) | assumption | (with_reducible exact Bel.alloc1 (by first | assumption | omega | (simp; omega))) | (with_reducible refine Bel.drew ?_) | (with_reducible refine Bel.drewL ?_) | (with_reducible refine Bel.setCell ?_ ?_ _; rotate_left; (focus (first | omega | (simp; done) | (simp; omega)))) | (with_reducible refine Bel.alloc ?_ _))); done)))
        clear hK
        intro hr
        (try have hF := own_bel (size := 3) (n := n) hr (by omega) zF); (try have hF := own_bel2 (size := 3) (n := n) hr (by omega) zF)
        replace hx := hx.trans hr
        clear hr
        try simp only [Act.put, List.setIfInBounds_toArray, List.set_cons_zero, List.set_cons_succ]
        refine wpT_call (List.getElem?_toArray.trans (by rfl)) (by rfl) (fun K hK => ?_) ?_
        · skip
          
          go_simp
          first | (refine hK _ _ ?_ ?_; (focus ((repeat (first | (with_reducible exact Bel.refl _ _ _) | assumption | (with_reducible exact Bel.alloc1 (by first | assumption | omega | (simp; omega))) | (with_reducible refine Bel.drew ?_) | (with_reducible refine Bel.drewL ?_) | (with_reducible refine Bel.setCell ?_ ?_ _; rotate_left; (focus (first | omega | (simp; done) | (simp; omega)))) | (with_reducible refine Bel.alloc ?_ _))); done))) | (refine hK undef _ ?_ ?_; (focus ((repeat (first | (with_reducible exact Bel.refl _ _ _) | assumption | (with_reducible exact Bel.alloc1 (by first | assumption | omega | (simp; omega))) | (with_reducible refine Bel.drew ?_) | (with_reducible refine Bel.drewL ?_) | (with_reducible refine Bel.setCell ?_ ?_ _; rotate_left; (focus (first | omega | (simp; done) | (simp; omega)))) | (with_reducible refine Bel.alloc ?_ _))); done)))
          clear hK
          intro hr
          (try have hW := own_bel (size := 1) (n := m) hr (by omega) zW); (try have hW := own_bel2 (size := 1) (n := m) hr (by omega) zW)
          replace hx := hx.trans hr
          clear hr
          try simp only [Act.put, List.setIfInBounds_toArray, List.set_cons_zero, List.set_cons_succ]
          first
            | (refine wpT_takeN hx (by simp) (v := ?_) (List.getElem?_toArray.trans (by rfl)) (by rfl) (fun _ hc => ?_) ?_
               rotate_left
               focus (go_simp; (try go_ints); exact rfl)
               simp only [Act.put, List.setIfInBounds_toArray, List.set_cons_zero, List.set_cons_succ])
            | (refine wpT_skip (List.getElem?_toArray.trans (by rfl)) (by rfl) ?_; simp only [Act.put, List.setIfInBounds_toArray, List.set_cons_zero, List.set_cons_succ])
          refine wpT_store (List.getElem?_toArray.trans (by rfl)) rfl (by rfl) (fun K hK => ?_) ?_
          · skip
            
            go_simp
            refine hK _ ?_ ?_
            focus (exact (by repeat (first | exact Bel.refl _ _ _ | exact Bel.alloc1 (by first | assumption | omega | (simp; done) | (simp; omega)) | refine Bel.drew ?_ | refine Bel.drewL ?_ | refine Bel.both ?_ (by first | omega | (simp; done) | (simp; omega)) | (refine Bel.setCell ?_ ?_ _; rotate_left; (focus (first | omega | (simp; done) | (simp; omega)))))); done)
            clear hK
            intro hr
            replace hx := hx.trans hr
            clear hr
            try simp only [Act.put, List.setIfInBounds_toArray, List.set_cons_zero, List.set_cons_succ]
            refine wpT_done ?_
            go_wp2
            go_meet
            refine pack_new hW hF ?_ ?_ ?_ ?_ ?_ ?_ ?_ (ext_bel hx) ?_
            · first
                | ((repeat (first | assumption | (with_reducible refine Blk.new ?_; (focus (simp; done))) | (with_reducible exact Blk.new rfl) | (with_reducible refine Blk.drew ?_) | (with_reducible refine Blk.alloc ?_ _) | refine Blk.ext ?_ (by assumption))); done)
                | (simp only [alloc_sz]; (repeat (first | assumption | (with_reducible refine Blk.new ?_; (focus (simp; done))) | (with_reducible exact Blk.new rfl) | (with_reducible refine Blk.drew ?_) | (with_reducible refine Blk.alloc ?_ _) | refine Blk.ext ?_ (by assumption))); done)
            · (repeat (first | (with_reducible exact But.refl _ _) | assumption | (with_reducible refine But.drew ?_) | (with_reducible refine But.drewL ?_) | (with_reducible refine But.setCell ?_ ?_ _; rotate_left; (focus (simp; done))) | (with_reducible refine But.setCellL ?_ ?_; rotate_left; (focus (simp; done))) | (with_reducible refine But.alloc2 ?_ ?_; rotate_left; (focus (simp [World.setCell]; done))) | (with_reducible refine But.allocL ?_ ?_ ?_; rotate_left; (focus (simp; done)); (focus (simp; done))) | (with_reducible refine But.alloc ?_ _)))
            · (repeat (first | (with_reducible exact But.refl _ _) | assumption | (with_reducible refine But.drew ?_) | (with_reducible refine But.drewL ?_) | (with_reducible refine But.setCell ?_ ?_ _; rotate_left; (focus (simp; done))) | (with_reducible refine But.setCellL ?_ ?_; rotate_left; (focus (simp; done))) | (with_reducible refine But.alloc2 ?_ ?_; rotate_left; (focus (simp [World.setCell]; done))) | (with_reducible refine But.allocL ?_ ?_ ?_; rotate_left; (focus (simp; done)); (focus (simp; done))) | (with_reducible refine But.alloc ?_ _)))
            · (first | omega | (simp; done) | (simp; omega))
            · (first | omega | (simp; done) | (simp; omega))
            · (first | omega | (simp; done) | (simp; omega))
            · (first | omega | (simp; done) | (simp; omega))
            · (first | omega | (simp; done) | (simp; omega))
          exact wpT_none
        exact wpT_none
      exact wpT_none
    exact wpT_none
  case rest =>
    obtain ⟨o, gW, gF, rfl, rfl, kO, hOW, hOF, hEW, hoW, hFo, hWo⟩ := hcut
    have e0 : cF.toList = frs (mixF n 0) := by
      rw [HF.out]
      simp only [mixF, List.replicate_zero, List.nil_append, Nat.sub_zero]
      exact (frs_zero n).symm
    have hOF0 := hOF
    rw [e0] at hOF0
    clear e0
    have lO := kO.lt
    have cO := kO.cell
    have hlW := World.ownsRow.lt hOW gW rfl
    have hlF := World.ownsRow.lt hOF gF rfl
    have kR1 := kR.ext hEW
    have hne := own_ne hOW hOF (by decide)
    clear hOF
    go_wp2_with fail
    go_loopw [32] (fun i wr => ∃ (k : Nat), k ≤ n ∧ i = .int .i64 k ∧ Blk wr o 35 #[.int .i64 sh, .slice (some ⟨gW, 0, none⟩) m m, .slice (some ⟨gF, 0, none⟩) n n] ∧ wr.ownsRow W.heap.size 92 1 (.slice (some ⟨gW, 0, none⟩) m m) m cW.toList ∧ wr.ownsRow W.heap.size 43 3 (.slice (some ⟨gF, 0, none⟩) n n) n (frs (mixF n k)) ∧ Ext W wr) (fun i _ => n - (intOf i).toNat)
    case atStart => exact ⟨0, by omega, rfl, kO, hOW, hOF0, hEW⟩
    case round =>
      clear kO hOW hOF0 hEW lO cO kR1
      obtain ⟨k, hk, rfl, kO, hOW, hOF, hEW⟩ := hrel
      have cO := kO.cell
      have lO := kO.lt
      by_cases hlt : k < n
      · have hdec : decide ((k : Int) < n) = true := by simp; omega
        have hdec' : decide (k < n) = true := by simp; omega
        have hkI : (k : Int) < n := by omega
        have hset := Lib.hid (mixF_set hlt)
        have hml := mixF_len (n := n) (k := k) (by omega)
        have hF0 : (mixF n k)[k]? = some ((mixF n k)[k]'(by omega)) := List.getElem?_eq_getElem (by omega)
        generalize (mixF n k)[k]'(by omega) = F at hF0
        obtain ⟨bF, oF, he, c0, c1, c2⟩ := fr_at (Rd.of_own hOF) hF0
        simp only [Option.some.injEq, Addr.mk.injEq, and_true] at he
        obtain ⟨rfl, rfl⟩ := he
        simp only [Nat.zero_add] at c0 c1 c2
        have fF := (own_cells hOF).2
        have lF := cell_lt c0
        clear hF0 hml
        go_wp2
        go_roundw
        case rel =>
          have q1 := own_set (own_set (own_set hOF (k * 3) (.int .i64 (-1))) (k * 3 + 1) (.int .i64 (-1))) (k * 3 + 2) (.int .i64 (-1))
          have e : (((frs (mixF n k)).set (k * 3) (.int .i64 (-1))).set (k * 3 + 1) (.int .i64 (-1))).set (k * 3 + 2) (.int .i64 (-1)) = frs (mixF n (k + 1)) := by rw [← hset.out, frs_set]; rfl
          rw [e] at q1
          have q2 := own_other (own_other (own_other hOW (p := ⟨gF, k * 3, none⟩) hne (.int .i64 (-1))) (p := ⟨gF, k * 3 + 1, none⟩) hne (.int .i64 (-1))) (p := ⟨gF, k * 3 + 2, none⟩) hne (.int .i64 (-1))
          exact ⟨k + 1, by omega, by go_num, ((kO.far hFo.symm _).far hFo.symm _).far hFo.symm _, q2, q1, Ext.setCell (Ext.setCell (Ext.setCell hEW (by simp; omega) _) (by simp; omega) _) (by simp; omega) _⟩
        case measure => simp [intOf]; omega
      · have hdec : decide ((k : Int) < n) = false := by simp; omega
        have hdec' : decide (k < n) = false := by simp; omega
        have hkn : k = n := by omega
        have kR1 := kR.ext hEW
        have cR := kR1.cell
        have fR := kR1.froz
        have lR := kR1.lt
        have hmm : mixF n n = List.replicate n freeF := by simp [mixF]
        rw [hkn, hmm] at hOF
        clear hkn hmm
        go_wp2
        have p1 := ((kR1.set_ 0 (.int .i64 sh)).set_ 1 (.slice (some ⟨gW, 0, none⟩) m m)).set_ 2 (.slice (some ⟨gF, 0, none⟩) n n)
        simp only [List.setIfInBounds_toArray, List.set_cons_zero, List.set_cons_succ] at p1
        have hws : (newSp sh n).ws.length = m := by simp only [newSp, zeroWs, List.length_replicate]; rw [HB.out, Hm.out]
        have hfs : (newSp sh n).fs.length = n := by simp [newSp]
        have hwc : words (newSp sh n).ws = cW.toList := by rw [HW.out]; simp only [newSp, zeroWs, words, List.map_replicate]; rw [HB.out, Hm.out]
        refine fin_new (t9 := .int .i64 0) rfl rfl rfl p1 ⟨gW, m, gF, n, by rw [hws, hfs], ?_, ?_⟩
        · have hb0 := Hb0.out
          repeat (refine SOw.far ?_ (by simp; omega) (by simp; omega) _)
          refine ⟨?_, ?_⟩
          · rw [hws, hwc]; exact own_base hOW (by omega)
          · rw [hfs]; exact own_base hOF (by omega)
        · have hb0 := Hb0.out
          repeat (refine Ext.setCell ?_ (by simp; omega) _)
          exact hE0.trans hEW
end Go.Proofs.Ytljkadpconghnaa
