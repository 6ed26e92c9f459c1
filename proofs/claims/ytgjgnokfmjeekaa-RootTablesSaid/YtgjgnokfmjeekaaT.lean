/- The walk of the law RootTables. Conditions: the ranges that each theorem states. -/
import Derived.Test.YtgjgnokfmjeekaaS
namespace Go.Proofs.Ytgjgnokfmjeekaa
open Go.RowKit Go.Draw

/-- three tables in block b -/
def Trio (w : World) (b : Nat) : Prop := ∀ k, k < 3 → ∃ (A B : Option Addr) (n c m c' : Nat) (us : List Bool) (rs : List Int), w.cell? ⟨b, k * 2, none⟩ = some (.slice A n c) ∧ w.cell? ⟨b, k * 2 + 1, none⟩ = some (.slice B m c') ∧ Rd w A n 1 (bools us) ∧ Rd w B m 1 (words rs) ∧ n ≤ 100 ∧ m ≤ 100
theorem Trio.ext {w w' : World} {b : Nat} (h : Trio w b) (he : Ext w w') : Trio w' b := by
  intro k hk
  obtain ⟨A, B, n, c, m, c', us, rs, h1, h2, h3, h4, h5⟩ := h k hk
  exact ⟨A, B, n, c, m, c', us, rs, cell_ext he h1, cell_ext he h2, h3.ext he, h4.ext he, h5⟩

theorem trio_mk {w : World} {b : Nat} {A B A1 B1 A2 B2 : Option Addr} {n m n1 m1 n2 m2 c d c1 d1 c2 d2 : Nat} {us us1 us2 : List Bool} {rs rs1 rs2 : List Int} (h : Blk w b 30 #[.slice A n c, .slice B m d, .slice A1 n1 c1, .slice B1 m1 d1, .slice A2 n2 c2, .slice B2 m2 d2])
    (h1 : Rd w A n 1 (bools us)) (h2 : Rd w B m 1 (words rs)) (h3 : Rd w A1 n1 1 (bools us1)) (h4 : Rd w B1 m1 1 (words rs1)) (h5 : Rd w A2 n2 1 (bools us2)) (h6 : Rd w B2 m2 1 (words rs2))
    (k1 : n ≤ 100) (k2 : m ≤ 100) (k3 : n1 ≤ 100) (k4 : m1 ≤ 100) (k5 : n2 ≤ 100) (k6 : m2 ≤ 100) : Trio w b
  | 0, _ => ⟨A, B, n, c, m, d, us, rs, h.cell 0, h.cell 1, h1, h2, k1, k2⟩
  | 1, _ => ⟨A1, B1, n1, c1, m1, d1, us1, rs1, h.cell 2, h.cell 3, h3, h4, k3, k4⟩
  | 2, _ => ⟨A2, B2, n2, c2, m2, d2, us2, rs2, h.cell 4, h.cell 5, h5, h6, k5, k6⟩
  | k + 3, h => absurd h (by omega)
theorem valid_is (A A' : Option Addr) (n n' c c' : Nat) (us : List Bool) (rs : List Int) (b : Bool) (w : World) (hu : Rd w A n 1 (bools us)) (hr : Rd w A' n' 1 (words rs)) (h : validT us rs = b) :
    Calls Try.prog 18 #[.agg #[.slice A n c, .slice A' n' c']] w fun e w' => e = .returned (.bool b) ∧ Ext w w' := by rw [← h]; exact valid_any A A' n n' c c' us rs w hu hr
theorem rvalid_is (A A' : Option Addr) (n n' c c' : Nat) (us : List Bool) (rs : List Int) (b : Bool) (w : World) (hu : Rd w A n 1 (bools us)) (hr : Rd w A' n' 1 (words rs)) (h : validT us rs = b) :
    Calls Try.prog 19 #[.agg #[.slice A n c, .slice A' n' c']] w fun e w' => e = .returned (.bool b) ∧ Ext w w' := by rw [← h]; exact rvalid_any A A' n n' c c' us rs w hu hr
theorem _root_.Go.Draw.Blk.to {w w' : World} {b : Nat} {t : TypeId} {cs : Array Value} (_ : Blk w b t cs) (h : Ext w w') : Ext w w' := h
theorem blk_of_ext {w w' : World} {cs : Array Value} {t : TypeId} (h : Ext (w.alloc (.cells cs t)) w') : Blk w' w.heap.size t cs := (Blk.new rfl).ext h
theorem two_at {w : World} {b j : Nat} {x y : Int} (h : Blk w b 3 #[.int .i64 x, .int .i64 y]) (hj : j < 2) : ∃ z, w.cell? ⟨b, j, none⟩ = some (.int .i64 z) := by
  match j, hj with
  | 0, _ => exact ⟨x, h.cell 0⟩
  | 1, _ => exact ⟨y, h.cell 1⟩
theorem take_open (us : List Bool) (rs : List Int) (v : Int) (h1 : us.length ≤ 100) (h2 : rs.length ≤ 100) : ∃ us4 rs4 h4 er, takeT us rs v = (us4, rs4, h4, er) ∧ us4.length ≤ 100 ∧ rs4.length ≤ 100 := by
  unfold takeT
  split
  · split
    · exact ⟨_, _, _, _, rfl, by simpa using h1, by simpa using h2⟩
    · exact ⟨_, _, _, _, rfl, by simp, by simp⟩
  · exact ⟨_, _, _, _, rfl, by simp, by simp⟩
theorem set_open (us : List Bool) (rs : List Int) (h v : Int) (h1 : us.length ≤ 100) (h2 : rs.length ≤ 100) : ∃ us4 rs4 er, setT us rs h v = (us4, rs4, er) ∧ us4.length ≤ 100 ∧ rs4.length ≤ 100 := by
  unfold setT
  split
  · exact ⟨_, _, _, rfl, by simpa using h1, by simpa using h2⟩
  · exact ⟨_, _, _, rfl, by simp, by simp⟩
theorem drop_open (us : List Bool) (rs : List Int) (h : Int) (h1 : us.length ≤ 100) (h2 : rs.length ≤ 100) : ∃ us4 rs4 er, dropT us rs h = (us4, rs4, er) ∧ us4.length ≤ 100 ∧ rs4.length ≤ 100 := by
  unfold dropT
  split
  · exact ⟨_, _, _, rfl, by simpa using h1, by simpa using h2⟩
  · exact ⟨_, _, _, rfl, by simp, by simp⟩
theorem get_is (A A' : Option Addr) (n m c c' : Nat) (us : List Bool) (rs : List Int) (h y er : Int) (w : World) (hu : Rd w A n 1 (bools us)) (hr : Rd w A' m 1 (words rs)) (ht : getT us rs h = (y, er)) :
    Calls Try.prog 14 #[.agg #[.slice A n c, .slice A' m c'], .int .i64 h] w fun r w' => r = .returned (.tuple #[.int .u64 y, .int .i64 er]) ∧ Ext w w' := by
  refine (get_any A A' n m c c' us rs h w hu hr).mono ?_
  rw [ht]
  exact fun _ _ h => h
theorem rget_is (A A' : Option Addr) (n m c c' : Nat) (us : List Bool) (rs : List Int) (h y er : Int) (w : World) (hu : Rd w A n 1 (bools us)) (hr : Rd w A' m 1 (words rs)) (ht : getT us rs h = (y, er)) :
    Calls Try.prog 25 #[.agg #[.slice A n c, .slice A' m c'], .int .i64 h] w fun r w' => r = .returned (.tuple #[.int .u64 y, .int .i64 er]) ∧ Ext w w' := by
  refine (rget_any A A' n m c c' us rs h w hu hr).mono ?_
  rw [ht]
  exact fun _ _ h => h
theorem set_is (A A' : Option Addr) (n m c c' : Nat) (us : List Bool) (rs : List Int) (h v er : Int) (us4 : List Bool) (rs4 : List Int) (w : World) (hu : Rd w A n 1 (bools us)) (hr : Rd w A' m 1 (words rs)) (ht : setT us rs h v = (us4, rs4, er)) :
    Calls Try.prog 26 #[.agg #[.slice A n c, .slice A' m c'], .int .i64 h, .int .u64 v] w fun r w' => RetEdit w us4 rs4 er r w' := by
  refine (set_any A A' n m c c' us rs h v w hu hr).mono ?_
  rw [ht]
  exact fun _ _ h => h
theorem rset_is (A A' : Option Addr) (n m c c' : Nat) (us : List Bool) (rs : List Int) (h v er : Int) (us4 : List Bool) (rs4 : List Int) (w : World) (hu : Rd w A n 1 (bools us)) (hr : Rd w A' m 1 (words rs)) (ht : setT us rs h v = (us4, rs4, er)) :
    Calls Try.prog 27 #[.agg #[.slice A n c, .slice A' m c'], .int .i64 h, .int .u64 v] w fun r w' => RetEdit w us4 rs4 er r w' := by
  refine (rset_any A A' n m c c' us rs h v w hu hr).mono ?_
  rw [ht]
  exact fun _ _ h => h
theorem drop_is (A A' : Option Addr) (n m c c' : Nat) (us : List Bool) (rs : List Int) (h er : Int) (us4 : List Bool) (rs4 : List Int) (w : World) (hu : Rd w A n 1 (bools us)) (hr : Rd w A' m 1 (words rs)) (ht : dropT us rs h = (us4, rs4, er)) :
    Calls Try.prog 13 #[.agg #[.slice A n c, .slice A' m c'], .int .i64 h] w fun r w' => RetEdit w us4 rs4 er r w' := by
  refine (drop_any A A' n m c c' us rs h w hu hr).mono ?_
  rw [ht]
  exact fun _ _ h => h
theorem rdrop_is (A A' : Option Addr) (n m c c' : Nat) (us : List Bool) (rs : List Int) (h er : Int) (us4 : List Bool) (rs4 : List Int) (w : World) (hu : Rd w A n 1 (bools us)) (hr : Rd w A' m 1 (words rs)) (ht : dropT us rs h = (us4, rs4, er)) :
    Calls Try.prog 28 #[.agg #[.slice A n c, .slice A' m c'], .int .i64 h] w fun r w' => RetEdit w us4 rs4 er r w' := by
  refine (rdrop_any A A' n m c c' us rs h w hu hr).mono ?_
  rw [ht]
  exact fun _ _ h => h
set_option maxRecDepth 100000 in
set_option maxHeartbeats 8000000 in
theorem tables_any (A A' L : Option Addr) (n m c c' ln lc : Nat) (us0 : List Bool) (rs0 : List Int) (zs : List Int) (hd v at_ : Int) (w : World) (hu0 : Rd w A n 1 (bools us0)) (hr0 : Rd w A' m 1 (words rs0)) (hz : Rd w L ln 1 (ints zs)) (hn : ln ≤ 9223372036854775807) :
    Calls Try.prog 4 #[.agg #[.slice A n c, .slice A' m c'], .slice L ln lc, .int .i64 hd, .int .u64 v, .int .i64 at_] w fun r w' => r = .returned (.bool true) ∧ Ext w w' := by
  by_cases hsm : n ≤ 100 ∧ m ≤ 100
  · obtain ⟨hn1, hm1⟩ := hsm
    have d1 : decide ((100 : Int) < n) = false := by simp; omega
    have d2 : decide ((100 : Int) < m) = false := by simp; omega
    have d1' : decide (100 < n) = false := by simp; omega
    have d2' : decide (100 < m) = false := by simp; omega
    go_enter Try.func4, Try.ntmps4
    go_wp2_with fail
    go_at_call 8
    refine (deck_any L ln lc zs _ (hz.ext (by (repeat (first | (with_reducible exact Ext.refl _) | assumption | (with_reducible refine Ext.alloc ?_ _) | (with_reducible refine Ext.drew ?_) | (with_reducible refine Ext.drewL ?_) | refine Ext.trans ?_ (by assumption))))) hn).mono ?_
    rintro e w1 ⟨rfl, hD, hE⟩
    replace hD : Dk w1 (w.heap.size + 1) := by simpa using hD
    have k5 : Blk w1 w.heap.size 30 #[.slice A n c, .slice A' m c'] := (Blk.new rfl).ext hE
    have hE01 : Ext w w1 := Ext.trans (by (repeat (first | (with_reducible exact Ext.refl _) | assumption | (with_reducible refine Ext.alloc ?_ _) | (with_reducible refine Ext.drew ?_) | (with_reducible refine Ext.drewL ?_) | refine Ext.trans ?_ (by assumption)))) hE
    go_wp2_with fail
    go_at_call 15
    refine (table_any _ _ hD).mono ?_
    rintro e w2 ⟨g, g', c2, c2', us, rs, rfl, hu, hr, hv, _, hB⟩
    have hE02 : Ext w w2 := But.ext hE01 hB (by simp)
    have k5 := k5.but hB (by simp)
    have hul := valid_len hv
    have Hv := Lib.hid hv
    clear hD hB hE hz hE01 hv
    go_wp2_with fail
    go_at_call 16
    refine (copy_any _ _ _ _ _ _ us rs _ (hu.ext (by (repeat (first | (with_reducible exact Ext.refl _) | assumption | (with_reducible refine Ext.alloc ?_ _) | (with_reducible refine Ext.drew ?_) | (with_reducible refine Ext.drewL ?_) | refine Ext.trans ?_ (by assumption))))) (hr.ext (by (repeat (first | (with_reducible exact Ext.refl _) | assumption | (with_reducible refine Ext.alloc ?_ _) | (with_reducible refine Ext.drew ?_) | (with_reducible refine Ext.drewL ?_) | refine Ext.trans ?_ (by assumption))))) (by omega) (by omega)).mono ?_
    rintro e w3 ⟨A3, c3, B3, c3', rfl, hA3, hB3, hE3⟩
    have hE23 : Ext w2 w3 := Ext.trans (by (repeat (first | (with_reducible exact Ext.refl _) | assumption | (with_reducible refine Ext.alloc ?_ _) | (with_reducible refine Ext.drew ?_) | (with_reducible refine Ext.drewL ?_) | refine Ext.trans ?_ (by assumption)))) hE3
    have k11 : Blk w3 w2.heap.size 30 #[.slice (some ⟨g, 0, none⟩) 32 c2, .slice (some ⟨g', 0, none⟩) 32 c2'] := (Blk.new rfl).ext hE3
    have hu2 := hu
    have hr2 := hr
    have hu00 := hu0
    have hr00 := hr0
    have k5 := k5.ext hE23
    have hu := hu.ext hE23
    have hr := hr.ext hE23
    have hE03 := hE02.trans hE23
    have hu0 := hu0.ext hE03
    have hr0 := hr0.ext hE03
    obtain ⟨g3, rfl, hg3, hg3'⟩ := own_form hA3 (by omega)
    obtain ⟨g4, rfl, hg4, hg4'⟩ := own_form hB3 (by omega)
    obtain ⟨i, hi, hi32⟩ := mod_ex at_ 32 (by omega)
    have Hi := Lib.hid hi
    have b5 := k5.lt
    have b11 := k11.lt
    have c5 := k5.cell
    have c11 := k11.cell
    have hz23 := hE23.size_le
    have hz02 := hE02.size_le
    clear hE3 hE02 hi
    simp at hg3 hg4
    obtain ⟨hcg, hfg⟩ := own_cells hB3
    have hq := hcg i _ (by simp [words, List.getElem?_eq_getElem (show i < rs.length by omega)] : (words rs)[i]? = some (.int .u64 (rs[i]'(by omega))))
    generalize rs[i]'(by omega) = ri at hq
    have hfq := hfg i
    have hiI : (i : Int) < 32 := by omega
    clear hcg hfg
    have hne4 : w3.heap.size ≠ g4 := by omega
    have hne5 : w.heap.size ≠ g4 := by omega
    have hne6 : w2.heap.size ≠ g4 := by omega
    go_upto_region 5 with fail
    refine wp_region_but [g4] [(true, 0), (true, 1), (true, 2), (true, 3), (true, 4), (true, 5), (true, 6), (true, 7), (true, 8), (false, 9)] Try.mixed (by kernel_rfl) (by simp only [pick, List.filterMap_cons, List.filterMap_nil, List.getElem?_toArray, List.getElem?_cons_succ, List.getElem?_cons_zero, Option.map_some]; rfl) ?_
    intro hx hy
    repeat (first
      | (refine wpL_takeB hx (v := ?_) (by rfl) (fun _ hc => ?_) ?_
         rotate_left
         focus (go_simp; (try go_ints); exact rfl)
         simp only [Act.put, List.setIfInBounds_toArray, List.set_cons_zero, List.set_cons_succ])
      | (refine wpL_quietB 17 (args := ?_) (v := ?_) (by rfl) (fun _ => ?_) (fun _ => ?_) ?_; rotate_left 2; (focus (go_simp; exact rfl)); (focus (refine (mod_to _ _ _ _ (by omega) (by omega) Hi.out).mono ?_; rintro _ _ ⟨rfl, rfl⟩; refine ⟨?_, ?_⟩ <;> exact rfl)); simp only [Act.put, List.setIfInBounds_toArray, List.set_cons_zero, List.set_cons_succ])
      | (refine wpL_skip (by rfl) ?_; simp only [Act.put, List.setIfInBounds_toArray, List.set_cons_zero, List.set_cons_succ])
      | (refine wpL_call (by rfl) (fun K hK => ?_); go_simp; go_at_call 17; refine (mod_to _ _ _ _ (by omega) (by omega) Hi.out).mono ?_; rintro e w1 ⟨rfl, rfl⟩; refine hK _ _ ((Ext.refl _).but _) ?_; clear hK; intro hr; replace hx := hx.trans hr; clear hr; replace hy := Ext.trans hy (Ext.trans (by (repeat (first | (with_reducible exact Ext.refl _) | assumption | (with_reducible refine Ext.alloc ?_ _) | (with_reducible refine Ext.drew ?_) | (with_reducible refine Ext.drewL ?_) | refine Ext.trans ?_ (by assumption)))) (Ext.refl _)); simp only [Act.put, List.setIfInBounds_toArray, List.set_cons_zero, List.set_cons_succ])
      | (refine wpL_call (by rfl) (fun K hK => ?_); go_simp; (first | (refine hK _ _ ?_ ?_; (focus ((repeat (first | (with_reducible exact But.refl _ _) | assumption | (with_reducible refine But.drew ?_) | (with_reducible refine But.drewL ?_) | (with_reducible refine But.setCell ?_ ?_ _; rotate_left; (focus (simp; done))) | (with_reducible refine But.setCellL ?_ ?_; rotate_left; (focus (simp; done))) | (with_reducible refine But.alloc2 ?_ ?_; rotate_left; (focus (simp [World.setCell]; done))) | (with_reducible refine But.allocL ?_ ?_ ?_; rotate_left; (focus (simp; done)); (focus (simp; done))) | (with_reducible refine But.alloc ?_ _))); done))) | (refine hK undef _ ?_ ?_; (focus ((repeat (first | (with_reducible exact But.refl _ _) | assumption | (with_reducible refine But.drew ?_) | (with_reducible refine But.drewL ?_) | (with_reducible refine But.setCell ?_ ?_ _; rotate_left; (focus (simp; done))) | (with_reducible refine But.setCellL ?_ ?_; rotate_left; (focus (simp; done))) | (with_reducible refine But.alloc2 ?_ ?_; rotate_left; (focus (simp [World.setCell]; done))) | (with_reducible refine But.allocL ?_ ?_ ?_; rotate_left; (focus (simp; done)); (focus (simp; done))) | (with_reducible refine But.alloc ?_ _))); done)))); clear hK; intro hr; replace hx := hx.trans hr; clear hr; try simp only [Act.put, List.setIfInBounds_toArray, List.set_cons_zero, List.set_cons_succ])
      | (refine wpL_call (by rfl) (fun K hK => ?_); have hcy := Ext.cell hy; have hfy := Ext.froz hy; go_simp; (first | (refine hK _ _ ?_ ?_; (focus ((repeat (first | (with_reducible exact But.refl _ _) | assumption | (with_reducible refine But.drew ?_) | (with_reducible refine But.drewL ?_) | (with_reducible refine But.setCell ?_ ?_ _; rotate_left; (focus (simp; done))) | (with_reducible refine But.setCellL ?_ ?_; rotate_left; (focus (simp; done))) | (with_reducible refine But.alloc2 ?_ ?_; rotate_left; (focus (simp [World.setCell]; done))) | (with_reducible refine But.allocL ?_ ?_ ?_; rotate_left; (focus (simp; done)); (focus (simp; done))) | (with_reducible refine But.alloc ?_ _))); done))) | (refine hK undef _ ?_ ?_; (focus ((repeat (first | (with_reducible exact But.refl _ _) | assumption | (with_reducible refine But.drew ?_) | (with_reducible refine But.drewL ?_) | (with_reducible refine But.setCell ?_ ?_ _; rotate_left; (focus (simp; done))) | (with_reducible refine But.setCellL ?_ ?_; rotate_left; (focus (simp; done))) | (with_reducible refine But.alloc2 ?_ ?_; rotate_left; (focus (simp [World.setCell]; done))) | (with_reducible refine But.allocL ?_ ?_ ?_; rotate_left; (focus (simp; done)); (focus (simp; done))) | (with_reducible refine But.alloc ?_ _))); done)))); clear hK; intro hr; replace hx := hx.trans hr; clear hr; try simp only [Act.put, List.setIfInBounds_toArray, List.set_cons_zero, List.set_cons_succ]))
    refine wpL_end ?_
    go_wp2
    have hgg := own_ne hA3 hB3 (by decide)
    have hset := words_set rs i v
    have hB3' := own_set hB3 i (.int .u64 v)
    rw [hset] at hB3'
    have hT := trio_mk (w := (((w3.setCell ⟨g4, i, none⟩ (.int .u64 v)).alloc (.cells #[.slice (some ⟨g3, 0, none⟩) 32 c3, .slice (some ⟨g4, 0, none⟩) 32 c3'] 30)).alloc
      (.cells #[.slice (some ⟨g, 0, none⟩) 32 c2, .slice (some ⟨g', 0, none⟩) 32 c2', .slice A n c, .slice A' m c', .slice (some ⟨g3, 0, none⟩) 32 c3, .slice (some ⟨g4, 0, none⟩) 32 c3'] 30)).drew)
      (Blk.drew (Blk.new (b := w3.heap.size + 1) (by simp))) (hu2.ext (by refine Ext.drew (Ext.alloc (Ext.alloc (Ext.setCell hE23 (by show _ ≤ g4; omega) _) _) _))) (hr2.ext (by refine Ext.drew (Ext.alloc (Ext.alloc (Ext.setCell hE23 (by show _ ≤ g4; omega) _) _) _)))
      (hu00.ext (by refine Ext.drew (Ext.alloc (Ext.alloc (Ext.setCell hE03 (by show _ ≤ g4; omega) _) _) _))) (hr00.ext (by refine Ext.drew (Ext.alloc (Ext.alloc (Ext.setCell hE03 (by show _ ≤ g4; omega) _) _) _)))
      (Rd.of_own (own_drew (own_alloc (own_alloc (own_other hA3 (by show g3 ≠ g4; exact hgg) _) _) _))) (Rd.of_own (own_drew (own_alloc (own_alloc hB3' _) _))) (by omega) (by omega) (by omega) (by omega) (by omega) (by omega)
    have hE0 : Ext w ((((w3.setCell ⟨g4, i, none⟩ (.int .u64 v)).alloc (.cells #[.slice (some ⟨g3, 0, none⟩) 32 c3, .slice (some ⟨g4, 0, none⟩) 32 c3'] 30)).alloc
      (.cells #[.slice (some ⟨g, 0, none⟩) 32 c2, .slice (some ⟨g', 0, none⟩) 32 c2', .slice A n c, .slice A' m c', .slice (some ⟨g3, 0, none⟩) 32 c3, .slice (some ⟨g4, 0, none⟩) 32 c3'] 30)).drew) := by refine Ext.drew (Ext.alloc (Ext.alloc (Ext.setCell hE03 (by show _ ≤ g4; omega) _) _) _)
    generalize hb3 : w3.heap.size + 1 = b3 at *
    clear hx hy hq hfq hu hr hu0 hr0 hu2 hr2 hu00 hr00 k5 k11 c5 c11 hE23 hE03 hA3 hB3 hB3' hset hgg hne4 hne5 hne6
    go_loopw [65] (fun s wr => ∃ k : Nat, k ≤ 3 ∧ s = .int .i64 k ∧ Ext w wr ∧ Trio wr b3) (fun s _ => 3 - (intOf s).toNat)
    case atStart => exact ⟨0, by omega, rfl, hE0, hT⟩
    case round =>
      obtain ⟨k, hk, rfl, hEr, hTr⟩ := hrel
      clear hT hE0
      by_cases hk3 : k < 3
      · have dk : decide ((k : Int) < 3) = true := by simp; omega
        have dk' : decide (k < 3) = true := by simp; omega
        have hkI : (k : Int) < 3 := by omega
        obtain ⟨A1, B1, n1, c1, m1, d1, us, rs, f1, f2, hu, hr, hn1, hm1⟩ := hTr k hk3
        have hb3l := cell_lt f1
        have hul1 : us.length = n1 := by have := hu.1; simpa [bools] using this
        have hrl1 : rs.length = m1 := by have := hr.1; simpa [words] using this
        obtain ⟨b, hb⟩ : ∃ b, validT us rs = b := ⟨_, rfl⟩
        have hvl : b = true → n1 = 32 ∧ m1 = 32 := fun h => by have := valid_len (hb.trans h); omega
        have Hb := Lib.hid hb
        have hlive := liveTo_len us n1
        go_upto_region 9 with fail
        have k14 : Blk (wr.alloc (.cells #[.slice A1 n1 c1, .slice B1 m1 d1] 30)) wr.heap.size 30 #[.slice A1 n1 c1, .slice B1 m1 d1] := Blk.new rfl
        go_cut [85] (fun s wx => s = .bool false ∧ Ext (wr.alloc (.cells #[.slice A1 n1 c1, .slice B1 m1 d1] 30)) wx)
        case first =>
          clear hb
          cases b with
          | true =>
            clear hul1 hrl1 hvl
            refine wp_region_treeE (.take 0 (.take 2 (.alt 1 (.alt 3 (.take 4 (.take 5 (.take 6 (.alt 7 (.take 8 (.take 9 (.take 11 (.alt 10 (.alt 12 (.alt 13 (.take 14 (.take 15 (.take 16 .done))) .none) .none) .none)))) .none)))) .none) .none))) Try.mixed (by kernel_rfl) ?_
            intro hx
            first
              | (refine wpT_take hx (v := ?_) (List.getElem?_toArray.trans (by rfl)) (by rfl) (fun _ hc => ?_) ?_
                 rotate_left
                 focus (go_simp; (try go_ints); exact rfl)
                 simp only [Act.put, List.setIfInBounds_toArray, List.set_cons_zero, List.set_cons_succ])
              | (refine wpT_skip (List.getElem?_toArray.trans (by rfl)) (by rfl) ?_; simp only [Act.put, List.setIfInBounds_toArray, List.set_cons_zero, List.set_cons_succ])
            first
              | (refine wpT_take hx (v := ?_) (List.getElem?_toArray.trans (by rfl)) (by rfl) (fun _ hc => ?_) ?_
                 rotate_left
                 focus (go_simp; (try go_ints); exact rfl)
                 simp only [Act.put, List.setIfInBounds_toArray, List.set_cons_zero, List.set_cons_succ])
              | (refine wpT_skip (List.getElem?_toArray.trans (by rfl)) (by rfl) ?_; simp only [Act.put, List.setIfInBounds_toArray, List.set_cons_zero, List.set_cons_succ])
            refine wpT_call (List.getElem?_toArray.trans (by rfl)) (by rfl) (fun K hK => ?_) ?_
            · skip
              go_simp
              go_at_call 18
              refine (valid_is _ _ _ _ _ _ us rs _ _ (hu.ext (by (repeat (first | (with_reducible exact Ext.refl _) | assumption | (with_reducible refine Ext.alloc ?_ _) | (with_reducible refine Ext.drew ?_) | (with_reducible refine Ext.drewL ?_) | refine Ext.trans ?_ (by assumption))))) (hr.ext (by (repeat (first | (with_reducible exact Ext.refl _) | assumption | (with_reducible refine Ext.alloc ?_ _) | (with_reducible refine Ext.drew ?_) | (with_reducible refine Ext.drewL ?_) | refine Ext.trans ?_ (by assumption))))) Hb.out).mono ?_
              rintro e w1 ⟨rfl, hE1⟩
              refine hK _ _ (hE1) ?_
              clear hK
              intro hr
              replace hx := hx.trans hr
              clear hr
              try simp only [Act.put, List.setIfInBounds_toArray, List.set_cons_zero, List.set_cons_succ]
              refine wpT_call (List.getElem?_toArray.trans (by rfl)) (by rfl) (fun K hK => ?_) ?_
              · skip
                go_simp
                go_at_call 19
                refine (rvalid_is _ _ _ _ _ _ us rs _ _ (hu.ext (by (repeat (first | (with_reducible exact Ext.refl _) | assumption | (with_reducible refine Ext.alloc ?_ _) | (with_reducible refine Ext.drew ?_) | (with_reducible refine Ext.drewL ?_) | refine Ext.trans ?_ (by assumption))))) (hr.ext (by (repeat (first | (with_reducible exact Ext.refl _) | assumption | (with_reducible refine Ext.alloc ?_ _) | (with_reducible refine Ext.drew ?_) | (with_reducible refine Ext.drewL ?_) | refine Ext.trans ?_ (by assumption))))) Hb.out).mono ?_
                rintro e w1 ⟨rfl, hE2⟩
                refine hK _ _ (hE2) ?_
                clear hK
                intro hr
                replace hx := hx.trans hr
                clear hr
                try simp only [Act.put, List.setIfInBounds_toArray, List.set_cons_zero, List.set_cons_succ]
                first
                  | (refine wpT_take hx (v := ?_) (List.getElem?_toArray.trans (by rfl)) (by rfl) (fun _ hc => ?_) ?_
                     rotate_left
                     focus (go_simp; (try go_ints); exact rfl)
                     simp only [Act.put, List.setIfInBounds_toArray, List.set_cons_zero, List.set_cons_succ])
                  | (refine wpT_skip (List.getElem?_toArray.trans (by rfl)) (by rfl) ?_; simp only [Act.put, List.setIfInBounds_toArray, List.set_cons_zero, List.set_cons_succ])
                first
                  | (refine wpT_take hx (v := ?_) (List.getElem?_toArray.trans (by rfl)) (by rfl) (fun _ hc => ?_) ?_
                     rotate_left
                     focus (go_simp; (try go_ints); exact rfl)
                     simp only [Act.put, List.setIfInBounds_toArray, List.set_cons_zero, List.set_cons_succ])
                  | (refine wpT_skip (List.getElem?_toArray.trans (by rfl)) (by rfl) ?_; simp only [Act.put, List.setIfInBounds_toArray, List.set_cons_zero, List.set_cons_succ])
                first
                  | (refine wpT_take hx (v := ?_) (List.getElem?_toArray.trans (by rfl)) (by rfl) (fun _ hc => ?_) ?_
                     rotate_left
                     focus (go_simp; (try go_ints); exact rfl)
                     simp only [Act.put, List.setIfInBounds_toArray, List.set_cons_zero, List.set_cons_succ])
                  | (refine wpT_skip (List.getElem?_toArray.trans (by rfl)) (by rfl) ?_; simp only [Act.put, List.setIfInBounds_toArray, List.set_cons_zero, List.set_cons_succ])
                refine wpT_call (List.getElem?_toArray.trans (by rfl)) (by rfl) (fun K hK => ?_) ?_
                · skip
                  go_simp
                  go_at_call 19
                  refine (rvalid_is _ _ _ _ _ _ us rs _ _ (hu.ext (by (repeat (first | (with_reducible exact Ext.refl _) | assumption | (with_reducible refine Ext.alloc ?_ _) | (with_reducible refine Ext.drew ?_) | (with_reducible refine Ext.drewL ?_) | refine Ext.trans ?_ (by assumption))))) (hr.ext (by (repeat (first | (with_reducible exact Ext.refl _) | assumption | (with_reducible refine Ext.alloc ?_ _) | (with_reducible refine Ext.drew ?_) | (with_reducible refine Ext.drewL ?_) | refine Ext.trans ?_ (by assumption))))) Hb.out).mono ?_
                  rintro e w1 ⟨rfl, hE2⟩
                  refine hK _ _ (hE2) ?_
                  clear hK
                  intro hr
                  replace hx := hx.trans hr
                  clear hr
                  try simp only [Act.put, List.setIfInBounds_toArray, List.set_cons_zero, List.set_cons_succ]
                  first
                    | (refine wpT_take hx (v := ?_) (List.getElem?_toArray.trans (by rfl)) (by rfl) (fun _ hc => ?_) ?_
                       rotate_left
                       focus (go_simp; (try go_ints); exact rfl)
                       simp only [Act.put, List.setIfInBounds_toArray, List.set_cons_zero, List.set_cons_succ])
                    | (refine wpT_skip (List.getElem?_toArray.trans (by rfl)) (by rfl) ?_; simp only [Act.put, List.setIfInBounds_toArray, List.set_cons_zero, List.set_cons_succ])
                  first
                    | (refine wpT_take hx (v := ?_) (List.getElem?_toArray.trans (by rfl)) (by rfl) (fun _ hc => ?_) ?_
                       rotate_left
                       focus (go_simp; (try go_ints); exact rfl)
                       simp only [Act.put, List.setIfInBounds_toArray, List.set_cons_zero, List.set_cons_succ])
                    | (refine wpT_skip (List.getElem?_toArray.trans (by rfl)) (by rfl) ?_; simp only [Act.put, List.setIfInBounds_toArray, List.set_cons_zero, List.set_cons_succ])
                  first
                    | (refine wpT_take hx (v := ?_) (List.getElem?_toArray.trans (by rfl)) (by rfl) (fun _ hc => ?_) ?_
                       rotate_left
                       focus (go_simp; (try go_ints); exact rfl)
                       simp only [Act.put, List.setIfInBounds_toArray, List.set_cons_zero, List.set_cons_succ])
                    | (refine wpT_skip (List.getElem?_toArray.trans (by rfl)) (by rfl) ?_; simp only [Act.put, List.setIfInBounds_toArray, List.set_cons_zero, List.set_cons_succ])
                  refine wpT_call (List.getElem?_toArray.trans (by rfl)) (by rfl) (fun K hK => ?_) ?_
                  · skip
                    go_simp
                    go_at_call 21
                    refine (live_any _ _ _ _ _ _ us _ (hu.ext (by (repeat (first | (with_reducible exact Ext.refl _) | assumption | (with_reducible refine Ext.alloc ?_ _) | (with_reducible refine Ext.drew ?_) | (with_reducible refine Ext.drewL ?_) | refine Ext.trans ?_ (by assumption))))) (by omega)).mono ?_
                    rintro e w1 ⟨A21, c21, rfl, hl1, hE3⟩
                    refine hK _ _ (hE3) ?_
                    clear hK
                    intro hr
                    replace hx := hx.trans hr
                    clear hr
                    try simp only [Act.put, List.setIfInBounds_toArray, List.set_cons_zero, List.set_cons_succ]
                    refine wpT_call (List.getElem?_toArray.trans (by rfl)) (by rfl) (fun K hK => ?_) ?_
                    · skip
                      go_simp
                      go_at_call 22
                      refine (rlive_any _ _ _ _ _ _ us _ (hu.ext (by (repeat (first | (with_reducible exact Ext.refl _) | assumption | (with_reducible refine Ext.alloc ?_ _) | (with_reducible refine Ext.drew ?_) | (with_reducible refine Ext.drewL ?_) | refine Ext.trans ?_ (by assumption))))) (by omega)).mono ?_
                      rintro e w1 ⟨A22, c22, rfl, hl2, hE4⟩
                      refine hK _ _ (hE4) ?_
                      clear hK
                      intro hr
                      replace hx := hx.trans hr
                      clear hr
                      try simp only [Act.put, List.setIfInBounds_toArray, List.set_cons_zero, List.set_cons_succ]
                      refine wpT_call (List.getElem?_toArray.trans (by rfl)) (by rfl) (fun K hK => ?_) ?_
                      · skip
                        go_simp
                        go_at_call 20
                        refine (sameints_any _ _ _ _ _ _ (liveTo us n1) (liveTo us n1) _ ((Rd.of_own hl1).ext (by (repeat (first | (with_reducible exact Ext.refl _) | assumption | (with_reducible refine Ext.alloc ?_ _) | (with_reducible refine Ext.drew ?_) | (with_reducible refine Ext.drewL ?_) | refine Ext.trans ?_ (by assumption))))) ((Rd.of_own hl2).ext (by (repeat (first | (with_reducible exact Ext.refl _) | assumption | (with_reducible refine Ext.alloc ?_ _) | (with_reducible refine Ext.drew ?_) | (with_reducible refine Ext.drewL ?_) | refine Ext.trans ?_ (by assumption))))) (by omega) (by omega)).mono ?_
                        rintro e w1 ⟨rfl, hE5⟩
                        refine hK _ _ (hE5) ?_
                        clear hK
                        intro hr
                        replace hx := hx.trans hr
                        clear hr
                        try simp only [Act.put, List.setIfInBounds_toArray, List.set_cons_zero, List.set_cons_succ]
                        first
                          | (refine wpT_take hx (v := ?_) (List.getElem?_toArray.trans (by rfl)) (by rfl) (fun _ hc => ?_) ?_
                             rotate_left
                             focus (go_simp; (try go_ints); exact rfl)
                             simp only [Act.put, List.setIfInBounds_toArray, List.set_cons_zero, List.set_cons_succ])
                          | (refine wpT_skip (List.getElem?_toArray.trans (by rfl)) (by rfl) ?_; simp only [Act.put, List.setIfInBounds_toArray, List.set_cons_zero, List.set_cons_succ])
                        first
                          | (refine wpT_take hx (v := ?_) (List.getElem?_toArray.trans (by rfl)) (by rfl) (fun _ hc => ?_) ?_
                             rotate_left
                             focus (go_simp; (try go_ints); exact rfl)
                             simp only [Act.put, List.setIfInBounds_toArray, List.set_cons_zero, List.set_cons_succ])
                          | (refine wpT_skip (List.getElem?_toArray.trans (by rfl)) (by rfl) ?_; simp only [Act.put, List.setIfInBounds_toArray, List.set_cons_zero, List.set_cons_succ])
                        first
                          | (refine wpT_take hx (v := ?_) (List.getElem?_toArray.trans (by rfl)) (by rfl) (fun _ hc => ?_) ?_
                             rotate_left
                             focus (go_simp; (try go_ints); exact rfl)
                             simp only [Act.put, List.setIfInBounds_toArray, List.set_cons_zero, List.set_cons_succ])
                          | (refine wpT_skip (List.getElem?_toArray.trans (by rfl)) (by rfl) ?_; simp only [Act.put, List.setIfInBounds_toArray, List.set_cons_zero, List.set_cons_succ])
                        refine wpT_done ?_
                        go_wp2
                        go_meet
                        exact ⟨by simp, Ext.trans (by (repeat (first | (with_reducible exact Ext.refl _) | assumption | (with_reducible refine Ext.alloc ?_ _) | (with_reducible refine Ext.drew ?_) | (with_reducible refine Ext.drewL ?_) | refine Ext.trans ?_ (by assumption)))) hE5⟩
                      exact wpT_none
                    exact wpT_none
                  exact wpT_none
                exact wpT_none
              exact wpT_none
            exact wpT_none
          | false =>
            clear hul1 hrl1 hvl
            refine wp_region_treeE (.take 0 (.take 2 (.alt 1 (.alt 3 (.take 4 (.take 5 (.take 6 (.alt 7 (.take 8 (.take 9 (.take 10 (.take 11 (.take 12 (.take 13 (.take 14 (.take 15 (.take 16 .done))))))))) .none)))) .none) .none))) Try.mixed (by kernel_rfl) ?_
            intro hx
            first
              | (refine wpT_take hx (v := ?_) (List.getElem?_toArray.trans (by rfl)) (by rfl) (fun _ hc => ?_) ?_
                 rotate_left
                 focus (go_simp; (try go_ints); exact rfl)
                 simp only [Act.put, List.setIfInBounds_toArray, List.set_cons_zero, List.set_cons_succ])
              | (refine wpT_skip (List.getElem?_toArray.trans (by rfl)) (by rfl) ?_; simp only [Act.put, List.setIfInBounds_toArray, List.set_cons_zero, List.set_cons_succ])
            first
              | (refine wpT_take hx (v := ?_) (List.getElem?_toArray.trans (by rfl)) (by rfl) (fun _ hc => ?_) ?_
                 rotate_left
                 focus (go_simp; (try go_ints); exact rfl)
                 simp only [Act.put, List.setIfInBounds_toArray, List.set_cons_zero, List.set_cons_succ])
              | (refine wpT_skip (List.getElem?_toArray.trans (by rfl)) (by rfl) ?_; simp only [Act.put, List.setIfInBounds_toArray, List.set_cons_zero, List.set_cons_succ])
            refine wpT_call (List.getElem?_toArray.trans (by rfl)) (by rfl) (fun K hK => ?_) ?_
            · skip
              go_simp
              go_at_call 18
              refine (valid_is _ _ _ _ _ _ us rs _ _ (hu.ext (by (repeat (first | (with_reducible exact Ext.refl _) | assumption | (with_reducible refine Ext.alloc ?_ _) | (with_reducible refine Ext.drew ?_) | (with_reducible refine Ext.drewL ?_) | refine Ext.trans ?_ (by assumption))))) (hr.ext (by (repeat (first | (with_reducible exact Ext.refl _) | assumption | (with_reducible refine Ext.alloc ?_ _) | (with_reducible refine Ext.drew ?_) | (with_reducible refine Ext.drewL ?_) | refine Ext.trans ?_ (by assumption))))) Hb.out).mono ?_
              rintro e w1 ⟨rfl, hE1⟩
              refine hK _ _ (hE1) ?_
              clear hK
              intro hr
              replace hx := hx.trans hr
              clear hr
              try simp only [Act.put, List.setIfInBounds_toArray, List.set_cons_zero, List.set_cons_succ]
              refine wpT_call (List.getElem?_toArray.trans (by rfl)) (by rfl) (fun K hK => ?_) ?_
              · skip
                go_simp
                go_at_call 19
                refine (rvalid_is _ _ _ _ _ _ us rs _ _ (hu.ext (by (repeat (first | (with_reducible exact Ext.refl _) | assumption | (with_reducible refine Ext.alloc ?_ _) | (with_reducible refine Ext.drew ?_) | (with_reducible refine Ext.drewL ?_) | refine Ext.trans ?_ (by assumption))))) (hr.ext (by (repeat (first | (with_reducible exact Ext.refl _) | assumption | (with_reducible refine Ext.alloc ?_ _) | (with_reducible refine Ext.drew ?_) | (with_reducible refine Ext.drewL ?_) | refine Ext.trans ?_ (by assumption))))) Hb.out).mono ?_
                rintro e w1 ⟨rfl, hE2⟩
                refine hK _ _ (hE2) ?_
                clear hK
                intro hr
                replace hx := hx.trans hr
                clear hr
                try simp only [Act.put, List.setIfInBounds_toArray, List.set_cons_zero, List.set_cons_succ]
                first
                  | (refine wpT_take hx (v := ?_) (List.getElem?_toArray.trans (by rfl)) (by rfl) (fun _ hc => ?_) ?_
                     rotate_left
                     focus (go_simp; (try go_ints); exact rfl)
                     simp only [Act.put, List.setIfInBounds_toArray, List.set_cons_zero, List.set_cons_succ])
                  | (refine wpT_skip (List.getElem?_toArray.trans (by rfl)) (by rfl) ?_; simp only [Act.put, List.setIfInBounds_toArray, List.set_cons_zero, List.set_cons_succ])
                first
                  | (refine wpT_take hx (v := ?_) (List.getElem?_toArray.trans (by rfl)) (by rfl) (fun _ hc => ?_) ?_
                     rotate_left
                     focus (go_simp; (try go_ints); exact rfl)
                     simp only [Act.put, List.setIfInBounds_toArray, List.set_cons_zero, List.set_cons_succ])
                  | (refine wpT_skip (List.getElem?_toArray.trans (by rfl)) (by rfl) ?_; simp only [Act.put, List.setIfInBounds_toArray, List.set_cons_zero, List.set_cons_succ])
                first
                  | (refine wpT_take hx (v := ?_) (List.getElem?_toArray.trans (by rfl)) (by rfl) (fun _ hc => ?_) ?_
                     rotate_left
                     focus (go_simp; (try go_ints); exact rfl)
                     simp only [Act.put, List.setIfInBounds_toArray, List.set_cons_zero, List.set_cons_succ])
                  | (refine wpT_skip (List.getElem?_toArray.trans (by rfl)) (by rfl) ?_; simp only [Act.put, List.setIfInBounds_toArray, List.set_cons_zero, List.set_cons_succ])
                refine wpT_call (List.getElem?_toArray.trans (by rfl)) (by rfl) (fun K hK => ?_) ?_
                · skip
                  go_simp
                  go_at_call 19
                  refine (rvalid_is _ _ _ _ _ _ us rs _ _ (hu.ext (by (repeat (first | (with_reducible exact Ext.refl _) | assumption | (with_reducible refine Ext.alloc ?_ _) | (with_reducible refine Ext.drew ?_) | (with_reducible refine Ext.drewL ?_) | refine Ext.trans ?_ (by assumption))))) (hr.ext (by (repeat (first | (with_reducible exact Ext.refl _) | assumption | (with_reducible refine Ext.alloc ?_ _) | (with_reducible refine Ext.drew ?_) | (with_reducible refine Ext.drewL ?_) | refine Ext.trans ?_ (by assumption))))) Hb.out).mono ?_
                  rintro e w1 ⟨rfl, hE2⟩
                  refine hK _ _ (hE2) ?_
                  clear hK
                  intro hr
                  replace hx := hx.trans hr
                  clear hr
                  try simp only [Act.put, List.setIfInBounds_toArray, List.set_cons_zero, List.set_cons_succ]
                  first
                    | (refine wpT_take hx (v := ?_) (List.getElem?_toArray.trans (by rfl)) (by rfl) (fun _ hc => ?_) ?_
                       rotate_left
                       focus (go_simp; (try go_ints); exact rfl)
                       simp only [Act.put, List.setIfInBounds_toArray, List.set_cons_zero, List.set_cons_succ])
                    | (refine wpT_skip (List.getElem?_toArray.trans (by rfl)) (by rfl) ?_; simp only [Act.put, List.setIfInBounds_toArray, List.set_cons_zero, List.set_cons_succ])
                  first
                    | (refine wpT_take hx (v := ?_) (List.getElem?_toArray.trans (by rfl)) (by rfl) (fun _ hc => ?_) ?_
                       rotate_left
                       focus (go_simp; (try go_ints); exact rfl)
                       simp only [Act.put, List.setIfInBounds_toArray, List.set_cons_zero, List.set_cons_succ])
                    | (refine wpT_skip (List.getElem?_toArray.trans (by rfl)) (by rfl) ?_; simp only [Act.put, List.setIfInBounds_toArray, List.set_cons_zero, List.set_cons_succ])
                  refine wpT_skip (List.getElem?_toArray.trans (by rfl)) (by rfl) ?_
                  simp only [Act.put, List.setIfInBounds_toArray, List.set_cons_zero, List.set_cons_succ]
                  first
                    | (refine wpT_take hx (v := ?_) (List.getElem?_toArray.trans (by rfl)) (by rfl) (fun _ hc => ?_) ?_
                       rotate_left
                       focus (go_simp; (try go_ints); exact rfl)
                       simp only [Act.put, List.setIfInBounds_toArray, List.set_cons_zero, List.set_cons_succ])
                    | (refine wpT_skip (List.getElem?_toArray.trans (by rfl)) (by rfl) ?_; simp only [Act.put, List.setIfInBounds_toArray, List.set_cons_zero, List.set_cons_succ])
                  refine wpT_skip (List.getElem?_toArray.trans (by rfl)) (by rfl) ?_
                  simp only [Act.put, List.setIfInBounds_toArray, List.set_cons_zero, List.set_cons_succ]
                  refine wpT_skip (List.getElem?_toArray.trans (by rfl)) (by rfl) ?_
                  simp only [Act.put, List.setIfInBounds_toArray, List.set_cons_zero, List.set_cons_succ]
                  first
                    | (refine wpT_take hx (v := ?_) (List.getElem?_toArray.trans (by rfl)) (by rfl) (fun _ hc => ?_) ?_
                       rotate_left
                       focus (go_simp; (try go_ints); exact rfl)
                       simp only [Act.put, List.setIfInBounds_toArray, List.set_cons_zero, List.set_cons_succ])
                    | (refine wpT_skip (List.getElem?_toArray.trans (by rfl)) (by rfl) ?_; simp only [Act.put, List.setIfInBounds_toArray, List.set_cons_zero, List.set_cons_succ])
                  first
                    | (refine wpT_take hx (v := ?_) (List.getElem?_toArray.trans (by rfl)) (by rfl) (fun _ hc => ?_) ?_
                       rotate_left
                       focus (go_simp; (try go_ints); exact rfl)
                       simp only [Act.put, List.setIfInBounds_toArray, List.set_cons_zero, List.set_cons_succ])
                    | (refine wpT_skip (List.getElem?_toArray.trans (by rfl)) (by rfl) ?_; simp only [Act.put, List.setIfInBounds_toArray, List.set_cons_zero, List.set_cons_succ])
                  first
                    | (refine wpT_take hx (v := ?_) (List.getElem?_toArray.trans (by rfl)) (by rfl) (fun _ hc => ?_) ?_
                       rotate_left
                       focus (go_simp; (try go_ints); exact rfl)
                       simp only [Act.put, List.setIfInBounds_toArray, List.set_cons_zero, List.set_cons_succ])
                    | (refine wpT_skip (List.getElem?_toArray.trans (by rfl)) (by rfl) ?_; simp only [Act.put, List.setIfInBounds_toArray, List.set_cons_zero, List.set_cons_succ])
                  refine wpT_done ?_
                  go_wp2
                  go_meet
                  exact ⟨by simp, Ext.trans (by (repeat (first | (with_reducible exact Ext.refl _) | assumption | (with_reducible refine Ext.alloc ?_ _) | (with_reducible refine Ext.drew ?_) | (with_reducible refine Ext.drewL ?_) | refine Ext.trans ?_ (by assumption)))) hE2⟩
                exact wpT_none
              exact wpT_none
            exact wpT_none
        case rest =>
          obtain ⟨rfl, hE9⟩ := hcut
          have k14 := k14.ext hE9
          have hE9' : Ext wr wc := Ext.trans (by (repeat (first | (with_reducible exact Ext.refl _) | assumption | (with_reducible refine Ext.alloc ?_ _) | (with_reducible refine Ext.drew ?_) | (with_reducible refine Ext.drewL ?_) | refine Ext.trans ?_ (by assumption)))) hE9
          have hu := hu.ext hE9'
          have hr := hr.ext hE9'
          have hTr := hTr.ext hE9'
          have hEr := hEr.trans hE9'
          have c14 := k14.cell
          have b14 := k14.lt
          clear hE9 hE9' hb hvl f1 f2
          obtain ⟨us4, rs4, h4, er4, ht4, hl4, hl4'⟩ := take_open us rs v (by omega) (by omega)
          go_wp2_with fail
          go_at_call 12
          refine (take_any _ _ _ _ _ _ us rs v _ (hu.ext (by (repeat (first | (with_reducible exact Ext.refl _) | assumption | (with_reducible refine Ext.alloc ?_ _) | (with_reducible refine Ext.drew ?_) | (with_reducible refine Ext.drewL ?_) | refine Ext.trans ?_ (by assumption))))) (hr.ext (by (repeat (first | (with_reducible exact Ext.refl _) | assumption | (with_reducible refine Ext.alloc ?_ _) | (with_reducible refine Ext.drew ?_) | (with_reducible refine Ext.drewL ?_) | refine Ext.trans ?_ (by assumption)))))).mono ?_
          rw [ht4]
          rintro e w4 ⟨A4, c4, B4, d4, rfl, hA4, hB4, hE4⟩
          simp only at hA4 hB4
          have hE4' : Ext wc w4 := Ext.trans (by (repeat (first | (with_reducible exact Ext.refl _) | assumption | (with_reducible refine Ext.alloc ?_ _) | (with_reducible refine Ext.drew ?_) | (with_reducible refine Ext.drewL ?_) | refine Ext.trans ?_ (by assumption)))) hE4
          have k14 := k14.ext hE4'
          have c14 := k14.cell
          have b14 := k14.lt
          have hu := hu.ext hE4'
          have hr := hr.ext hE4'
          have hTr := hTr.ext hE4'
          have hEr := hEr.trans hE4'
          have k15 : Blk (w4.alloc (.cells #[.slice A4 us4.length c4, .slice B4 rs4.length d4] 30)) w4.heap.size 30 #[.slice A4 us4.length c4, .slice B4 rs4.length d4] := Blk.new rfl
          have hu4 := Rd.of_own hA4
          have hr4 := Rd.of_own hB4
          clear hE4 hE4' hA4 hB4
          go_wp2_with fail
          go_at_call 23
          refine (rtake_any _ _ _ _ _ _ us rs v _ (hu.ext (by (repeat (first | (with_reducible exact Ext.refl _) | assumption | (with_reducible refine Ext.alloc ?_ _) | (with_reducible refine Ext.drew ?_) | (with_reducible refine Ext.drewL ?_) | refine Ext.trans ?_ (by assumption))))) (hr.ext (by (repeat (first | (with_reducible exact Ext.refl _) | assumption | (with_reducible refine Ext.alloc ?_ _) | (with_reducible refine Ext.drew ?_) | (with_reducible refine Ext.drewL ?_) | refine Ext.trans ?_ (by assumption)))))).mono ?_
          rw [ht4]
          rintro e w5 ⟨A5, c5, B5, d5, rfl, hA5, hB5, hE5⟩
          simp only at hA5 hB5
          have hE5' : Ext w4 w5 := Ext.trans (by (repeat (first | (with_reducible exact Ext.refl _) | assumption | (with_reducible refine Ext.alloc ?_ _) | (with_reducible refine Ext.drew ?_) | (with_reducible refine Ext.drewL ?_) | refine Ext.trans ?_ (by assumption)))) hE5
          have k14 := k14.ext hE5'
          have c14 := k14.cell
          have b14 := k14.lt
          have hu := hu.ext hE5'
          have hr := hr.ext hE5'
          have hTr := hTr.ext hE5'
          have hEr := hEr.trans hE5'
          have k15 := k15.ext hE5
          have c15 := k15.cell
          have b15 := k15.lt
          have hu4 := hu4.ext hE5'
          have hr4 := hr4.ext hE5'
          have hu5 := Rd.of_own hA5
          have hr5 := Rd.of_own hB5
          clear hE5 hE5' hA5 hB5 ht4
          go_wp2_with fail
          go_at_call 24
          refine (same_any _ _ _ _ _ _ _ _ _ _ _ _ us4 us4 rs4 rs4 _ (hu4.ext (by (repeat (first | (with_reducible exact Ext.refl _) | assumption | (with_reducible refine Ext.alloc ?_ _) | (with_reducible refine Ext.drew ?_) | (with_reducible refine Ext.drewL ?_) | refine Ext.trans ?_ (by assumption))))) (hr4.ext (by (repeat (first | (with_reducible exact Ext.refl _) | assumption | (with_reducible refine Ext.alloc ?_ _) | (with_reducible refine Ext.drew ?_) | (with_reducible refine Ext.drewL ?_) | refine Ext.trans ?_ (by assumption))))) (hu5.ext (by (repeat (first | (with_reducible exact Ext.refl _) | assumption | (with_reducible refine Ext.alloc ?_ _) | (with_reducible refine Ext.drew ?_) | (with_reducible refine Ext.drewL ?_) | refine Ext.trans ?_ (by assumption))))) (hr5.ext (by (repeat (first | (with_reducible exact Ext.refl _) | assumption | (with_reducible refine Ext.alloc ?_ _) | (with_reducible refine Ext.drew ?_) | (with_reducible refine Ext.drewL ?_) | refine Ext.trans ?_ (by assumption))))) (by omega) (by omega) (by omega) (by omega)).mono ?_
          rintro e w6 ⟨rfl, hE6⟩
          have hE6' : Ext w5 w6 := Ext.trans (by (repeat (first | (with_reducible exact Ext.refl _) | assumption | (with_reducible refine Ext.alloc ?_ _) | (with_reducible refine Ext.drew ?_) | (with_reducible refine Ext.drewL ?_) | refine Ext.trans ?_ (by assumption)))) hE6
          have k14 := k14.ext hE6'
          have c14 := k14.cell
          have b14 := k14.lt
          have hu := hu.ext hE6'
          have hr := hr.ext hE6'
          have hTr := hTr.ext hE6'
          have hEr := hEr.trans hE6'
          clear hE6 hE6' k15 c15 b15 hu4 hr4 hu5 hr5
          obtain ⟨z, hz, hz35⟩ := mod_ex hd 35 (by omega)
          have Hz := Lib.hid hz
          clear hz
          go_wp2_with (go_at_call 17; refine (mod_to _ _ _ _ (by omega) (by omega) Hz.out).mono ?_; rintro e w7 ⟨rfl, rfl⟩)
          have kh : Blk (w6.alloc (.cells #[.int .i64 hd, .int .i64 ((z : Int) - 1)] 3)) w6.heap.size 3 #[.int .i64 hd, .int .i64 ((z : Int) - 1)] := Blk.new rfl
          have hE6 : Ext w6 (w6.alloc (.cells #[.int .i64 hd, .int .i64 ((z : Int) - 1)] 3)) := by (repeat (first | (with_reducible exact Ext.refl _) | assumption | (with_reducible refine Ext.alloc ?_ _) | (with_reducible refine Ext.drew ?_) | (with_reducible refine Ext.drewL ?_) | refine Ext.trans ?_ (by assumption)))
          have k14 := k14.ext hE6
          have hu := hu.ext hE6
          have hr := hr.ext hE6
          have hTr := hTr.ext hE6
          have hEr := hEr.trans hE6
          clear hE6 c14 b14
          go_loopw [120] (fun s wr => ∃ j : Nat, j ≤ 2 ∧ s = .int .i64 j ∧ Ext (w6.alloc (.cells #[.int .i64 hd, .int .i64 ((z : Int) - 1)] 3)) wr) (fun s _ => 2 - (intOf s).toNat)
          case atStart => exact ⟨0, by omega, rfl, Ext.refl _⟩
          case round =>
            obtain ⟨j, hj, rfl, hEW⟩ := hrel
            by_cases hj2 : j < 2
            · have dj : decide ((j : Int) < 2) = true := by simp; omega
              have dj' : decide (j < 2) = true := by simp; omega
              have hjI : (j : Int) < 2 := by omega
              obtain ⟨h, hh⟩ := two_at (kh.ext hEW) hj2
              have k14 := k14.ext hEW
              have c14 := k14.cell
              have b14 := k14.lt
              have hu := hu.ext hEW
              have hr := hr.ext hEW
              have hbh := cell_lt hh
              obtain ⟨y, er, hg⟩ : ∃ y er, getT us rs h = (y, er) := ⟨_, _, rfl⟩
              obtain ⟨us6, rs6, er6, hs, hl6, hl6'⟩ := set_open us rs h v (by omega) (by omega)
              obtain ⟨us8, rs8, er8, hd8, hl8, hl8'⟩ := drop_open us rs h (by omega) (by omega)
              have Hg := Lib.hid hg
              have Hs := Lib.hid hs
              have Hd := Lib.hid hd8
              clear hg hs hd8 kh
              go_wp2_with (first | (go_at_call 14; refine (get_is _ _ _ _ _ _ us rs _ _ _ _ (hu.ext (by (repeat (first | (with_reducible exact Ext.refl _) | assumption | (with_reducible refine Ext.alloc ?_ _) | (with_reducible refine Ext.drew ?_) | (with_reducible refine Ext.drewL ?_) | refine Ext.trans ?_ (by assumption))))) (hr.ext (by (repeat (first | (with_reducible exact Ext.refl _) | assumption | (with_reducible refine Ext.alloc ?_ _) | (with_reducible refine Ext.drew ?_) | (with_reducible refine Ext.drewL ?_) | refine Ext.trans ?_ (by assumption))))) Hg.out).mono ?_; rintro e w1 ⟨rfl, hE⟩; have hX := k14.to (Ext.trans (by (repeat (first | (with_reducible exact Ext.refl _) | assumption | (with_reducible refine Ext.alloc ?_ _) | (with_reducible refine Ext.drew ?_) | (with_reducible refine Ext.drewL ?_) | refine Ext.trans ?_ (by assumption)))) hE); have k14 := k14.ext hX; have c14 := k14.cell; have b14 := k14.lt; have hu := hu.ext hX; have hr := hr.ext hX; have hEW := hEW.trans hX; clear hE) | (go_at_call 25; refine (rget_is _ _ _ _ _ _ us rs _ _ _ _ (hu.ext (by (repeat (first | (with_reducible exact Ext.refl _) | assumption | (with_reducible refine Ext.alloc ?_ _) | (with_reducible refine Ext.drew ?_) | (with_reducible refine Ext.drewL ?_) | refine Ext.trans ?_ (by assumption))))) (hr.ext (by (repeat (first | (with_reducible exact Ext.refl _) | assumption | (with_reducible refine Ext.alloc ?_ _) | (with_reducible refine Ext.drew ?_) | (with_reducible refine Ext.drewL ?_) | refine Ext.trans ?_ (by assumption))))) Hg.out).mono ?_; rintro e w1 ⟨rfl, hE⟩; have hX := k14.to (Ext.trans (by (repeat (first | (with_reducible exact Ext.refl _) | assumption | (with_reducible refine Ext.alloc ?_ _) | (with_reducible refine Ext.drew ?_) | (with_reducible refine Ext.drewL ?_) | refine Ext.trans ?_ (by assumption)))) hE); have k14 := k14.ext hX; have c14 := k14.cell; have b14 := k14.lt; have hu := hu.ext hX; have hr := hr.ext hX; have hEW := hEW.trans hX; clear hE) | (go_at_call 26; refine (set_is _ _ _ _ _ _ us rs _ _ _ _ _ _ (hu.ext (by (repeat (first | (with_reducible exact Ext.refl _) | assumption | (with_reducible refine Ext.alloc ?_ _) | (with_reducible refine Ext.drew ?_) | (with_reducible refine Ext.drewL ?_) | refine Ext.trans ?_ (by assumption))))) (hr.ext (by (repeat (first | (with_reducible exact Ext.refl _) | assumption | (with_reducible refine Ext.alloc ?_ _) | (with_reducible refine Ext.drew ?_) | (with_reducible refine Ext.drewL ?_) | refine Ext.trans ?_ (by assumption))))) Hs.out).mono ?_; rintro e w1 ⟨A6, c6, B6, d6, rfl, hA, hB, hE⟩; have hX := k14.to (Ext.trans (by (repeat (first | (with_reducible exact Ext.refl _) | assumption | (with_reducible refine Ext.alloc ?_ _) | (with_reducible refine Ext.drew ?_) | (with_reducible refine Ext.drewL ?_) | refine Ext.trans ?_ (by assumption)))) hE); have k14 := k14.ext hX; have c14 := k14.cell; have b14 := k14.lt; have hu := hu.ext hX; have hr := hr.ext hX; have hEW := hEW.trans hX; have hu6 := Rd.of_own hA; have hr6 := Rd.of_own hB; clear hA hB; clear hE) | (go_at_call 27; refine (rset_is _ _ _ _ _ _ us rs _ _ _ _ _ _ (hu.ext (by (repeat (first | (with_reducible exact Ext.refl _) | assumption | (with_reducible refine Ext.alloc ?_ _) | (with_reducible refine Ext.drew ?_) | (with_reducible refine Ext.drewL ?_) | refine Ext.trans ?_ (by assumption))))) (hr.ext (by (repeat (first | (with_reducible exact Ext.refl _) | assumption | (with_reducible refine Ext.alloc ?_ _) | (with_reducible refine Ext.drew ?_) | (with_reducible refine Ext.drewL ?_) | refine Ext.trans ?_ (by assumption))))) Hs.out).mono ?_; rintro e w1 ⟨A7, c7, B7, d7, rfl, hA, hB, hE⟩; have hX := k14.to (Ext.trans (by (repeat (first | (with_reducible exact Ext.refl _) | assumption | (with_reducible refine Ext.alloc ?_ _) | (with_reducible refine Ext.drew ?_) | (with_reducible refine Ext.drewL ?_) | refine Ext.trans ?_ (by assumption)))) hE); have k14 := k14.ext hX; have c14 := k14.cell; have b14 := k14.lt; have hu := hu.ext hX; have hr := hr.ext hX; have hEW := hEW.trans hX; have k27 := blk_of_ext hE; have c27 := k27.cell; have b27 := k27.lt; have hu6 := hu6.ext hX; have hr6 := hr6.ext hX; have hu7 := Rd.of_own hA; have hr7 := Rd.of_own hB; clear hA hB; clear hE) | (go_at_call 13; refine (drop_is _ _ _ _ _ _ us rs _ _ _ _ _ (hu.ext (by (repeat (first | (with_reducible exact Ext.refl _) | assumption | (with_reducible refine Ext.alloc ?_ _) | (with_reducible refine Ext.drew ?_) | (with_reducible refine Ext.drewL ?_) | refine Ext.trans ?_ (by assumption))))) (hr.ext (by (repeat (first | (with_reducible exact Ext.refl _) | assumption | (with_reducible refine Ext.alloc ?_ _) | (with_reducible refine Ext.drew ?_) | (with_reducible refine Ext.drewL ?_) | refine Ext.trans ?_ (by assumption))))) Hd.out).mono ?_; rintro e w1 ⟨A8, c8, B8, d8, rfl, hA, hB, hE⟩; have hX := k14.to (Ext.trans (by (repeat (first | (with_reducible exact Ext.refl _) | assumption | (with_reducible refine Ext.alloc ?_ _) | (with_reducible refine Ext.drew ?_) | (with_reducible refine Ext.drewL ?_) | refine Ext.trans ?_ (by assumption)))) hE); have k14 := k14.ext hX; have c14 := k14.cell; have b14 := k14.lt; have hu := hu.ext hX; have hr := hr.ext hX; have hEW := hEW.trans hX; have k27 := k27.ext hX; have c27 := k27.cell; have b27 := k27.lt; have k29 := blk_of_ext hE; have c29 := k29.cell; have b29 := k29.lt; have hu6 := hu6.ext hX; have hr6 := hr6.ext hX; have hu7 := hu7.ext hX; have hr7 := hr7.ext hX; have hu8 := Rd.of_own hA; have hr8 := Rd.of_own hB; clear hA hB; clear hE) | (go_at_call 28; refine (rdrop_is _ _ _ _ _ _ us rs _ _ _ _ _ (hu.ext (by (repeat (first | (with_reducible exact Ext.refl _) | assumption | (with_reducible refine Ext.alloc ?_ _) | (with_reducible refine Ext.drew ?_) | (with_reducible refine Ext.drewL ?_) | refine Ext.trans ?_ (by assumption))))) (hr.ext (by (repeat (first | (with_reducible exact Ext.refl _) | assumption | (with_reducible refine Ext.alloc ?_ _) | (with_reducible refine Ext.drew ?_) | (with_reducible refine Ext.drewL ?_) | refine Ext.trans ?_ (by assumption))))) Hd.out).mono ?_; rintro e w1 ⟨A9, c9, B9, d9, rfl, hA, hB, hE⟩; have hX := k14.to (Ext.trans (by (repeat (first | (with_reducible exact Ext.refl _) | assumption | (with_reducible refine Ext.alloc ?_ _) | (with_reducible refine Ext.drew ?_) | (with_reducible refine Ext.drewL ?_) | refine Ext.trans ?_ (by assumption)))) hE); have k14 := k14.ext hX; have c14 := k14.cell; have b14 := k14.lt; have hu := hu.ext hX; have hr := hr.ext hX; have hEW := hEW.trans hX; have k27 := k27.ext hX; have c27 := k27.cell; have b27 := k27.lt; have k29 := k29.ext hX; have c29 := k29.cell; have b29 := k29.lt; have k31 := blk_of_ext hE; have c31 := k31.cell; have b31 := k31.lt; have hu6 := hu6.ext hX; have hr6 := hr6.ext hX; have hu7 := hu7.ext hX; have hr7 := hr7.ext hX; have hu8 := hu8.ext hX; have hr8 := hr8.ext hX; have hu9 := Rd.of_own hA; have hr9 := Rd.of_own hB; clear hA hB; clear hE) | (go_at_call 24; refine (same_any _ _ _ _ _ _ _ _ _ _ _ _ _ _ _ _ _ (by first | exact hu6.ext (by (repeat (first | (with_reducible exact Ext.refl _) | assumption | (with_reducible refine Ext.alloc ?_ _) | (with_reducible refine Ext.drew ?_) | (with_reducible refine Ext.drewL ?_) | refine Ext.trans ?_ (by assumption)))) | exact hu8.ext (by (repeat (first | (with_reducible exact Ext.refl _) | assumption | (with_reducible refine Ext.alloc ?_ _) | (with_reducible refine Ext.drew ?_) | (with_reducible refine Ext.drewL ?_) | refine Ext.trans ?_ (by assumption))))) (by first | exact hr6.ext (by (repeat (first | (with_reducible exact Ext.refl _) | assumption | (with_reducible refine Ext.alloc ?_ _) | (with_reducible refine Ext.drew ?_) | (with_reducible refine Ext.drewL ?_) | refine Ext.trans ?_ (by assumption)))) | exact hr8.ext (by (repeat (first | (with_reducible exact Ext.refl _) | assumption | (with_reducible refine Ext.alloc ?_ _) | (with_reducible refine Ext.drew ?_) | (with_reducible refine Ext.drewL ?_) | refine Ext.trans ?_ (by assumption))))) (by first | exact hu7.ext (by (repeat (first | (with_reducible exact Ext.refl _) | assumption | (with_reducible refine Ext.alloc ?_ _) | (with_reducible refine Ext.drew ?_) | (with_reducible refine Ext.drewL ?_) | refine Ext.trans ?_ (by assumption)))) | exact hu9.ext (by (repeat (first | (with_reducible exact Ext.refl _) | assumption | (with_reducible refine Ext.alloc ?_ _) | (with_reducible refine Ext.drew ?_) | (with_reducible refine Ext.drewL ?_) | refine Ext.trans ?_ (by assumption))))) (by first | exact hr7.ext (by (repeat (first | (with_reducible exact Ext.refl _) | assumption | (with_reducible refine Ext.alloc ?_ _) | (with_reducible refine Ext.drew ?_) | (with_reducible refine Ext.drewL ?_) | refine Ext.trans ?_ (by assumption)))) | exact hr9.ext (by (repeat (first | (with_reducible exact Ext.refl _) | assumption | (with_reducible refine Ext.alloc ?_ _) | (with_reducible refine Ext.drew ?_) | (with_reducible refine Ext.drewL ?_) | refine Ext.trans ?_ (by assumption))))) (by omega) (by omega) (by omega) (by omega)).mono ?_; rintro e w1 ⟨rfl, hE⟩; have hX := k31.to (Ext.trans (by (repeat (first | (with_reducible exact Ext.refl _) | assumption | (with_reducible refine Ext.alloc ?_ _) | (with_reducible refine Ext.drew ?_) | (with_reducible refine Ext.drewL ?_) | refine Ext.trans ?_ (by assumption)))) hE); have hEW := hEW.trans hX; have k31 := k31.ext hX; have c31 := k31.cell; have b31 := k31.lt; (try (have k33 := blk_of_ext hE; have c33 := k33.cell; have b33 := k33.lt)); have hu8 := hu8.ext hX; have hr8 := hr8.ext hX; have hu9 := hu9.ext hX; have hr9 := hr9.ext hX; clear hE))
              go_roundw
              case rel => exact ⟨j + 1, by omega, by go_num, hEW.trans (by (repeat (first | (with_reducible exact Ext.refl _) | assumption | (with_reducible refine Ext.alloc ?_ _) | (with_reducible refine Ext.drew ?_) | (with_reducible refine Ext.drewL ?_) | refine Ext.trans ?_ (by assumption))))⟩
              case measure => simp [intOf]; omega
            · have dj : decide ((j : Int) < 2) = false := by simp; omega
              have dj' : decide (j < 2) = false := by simp; omega
              go_wp2
              go_roundw
              case rel => exact ⟨k + 1, by omega, by go_num, hEr.trans (by (repeat (first | (with_reducible exact Ext.refl _) | assumption | (with_reducible refine Ext.alloc ?_ _) | (with_reducible refine Ext.drew ?_) | (with_reducible refine Ext.drewL ?_) | refine Ext.trans ?_ (by assumption)))), hTr.ext (by (repeat (first | (with_reducible exact Ext.refl _) | assumption | (with_reducible refine Ext.alloc ?_ _) | (with_reducible refine Ext.drew ?_) | (with_reducible refine Ext.drewL ?_) | refine Ext.trans ?_ (by assumption))))⟩
              case measure => simp [intOf]; omega
      · have dk : decide ((k : Int) < 3) = false := by simp; omega
        have dk' : decide (k < 3) = false := by simp; omega
        clear hTr
        go_wp2_with (first | (go_at_call 9; refine (new_any _).mono ?_; rintro e w1 ⟨A1, c1, B1, d1, rfl, hA1, hB1, hF1⟩) | (go_at_call 29; refine (rnew_any _).mono ?_; rintro e w1 ⟨A2, c2, B2, d2, rfl, hA2, hB2, hF2⟩) | (go_at_call 24; refine (same_any _ _ _ _ _ _ _ _ _ _ _ _ _ _ _ _ _ (Rd.of_own (own_ext hA1 hF2)) (Rd.of_own (own_ext hB1 hF2)) (Rd.of_own hA2) (Rd.of_own hB2) (by omega) (by omega) (by omega) (by omega)).mono ?_; rintro e w1 ⟨rfl, hF3⟩) | (go_at_call 7; refine (awake_any _).mono ?_; rintro e w1 ⟨rfl, hF7⟩))
        go_ret
        exact ⟨rfl, hEr.trans (Ext.trans hF1 (Ext.trans hF2 (Ext.trans hF3 hF7)))⟩
  · have hor : 100 < n ∨ 100 < m := by omega
    by_cases hn1 : n ≤ 100
    · have hm1 : 100 < m := by omega
      have d1 : decide ((100 : Int) < n) = false := by simp; omega
      have d2 : decide ((100 : Int) < m) = true := by simp; omega
      have d1' : decide (100 < n) = false := by simp; omega
      have d2' : decide (100 < m) = true := by simp; omega
      clear hsm hor
      go_enter Try.func4, Try.ntmps4
      go_wp2_with (first | (go_at_call 9; refine (new_any _).mono ?_; rintro e w1 ⟨A1, c1, B1, d1, rfl, hA1, hB1, hF1⟩) | (go_at_call 29; refine (rnew_any _).mono ?_; rintro e w1 ⟨A2, c2, B2, d2, rfl, hA2, hB2, hF2⟩) | (go_at_call 24; refine (same_any _ _ _ _ _ _ _ _ _ _ _ _ _ _ _ _ _ (Rd.of_own (own_ext hA1 hF2)) (Rd.of_own (own_ext hB1 hF2)) (Rd.of_own hA2) (Rd.of_own hB2) (by omega) (by omega) (by omega) (by omega)).mono ?_; rintro e w1 ⟨rfl, hF3⟩) | (go_at_call 7; refine (awake_any _).mono ?_; rintro e w1 ⟨rfl, hF7⟩))
      go_ret
      exact ⟨rfl, Ext.trans (by (repeat (first | (with_reducible exact Ext.refl _) | assumption | (with_reducible refine Ext.alloc ?_ _) | (with_reducible refine Ext.drew ?_) | (with_reducible refine Ext.drewL ?_) | refine Ext.trans ?_ (by assumption)))) hF7⟩
    · have d1 : decide ((100 : Int) < n) = true := by simp; omega
      have d1' : decide (100 < n) = true := by simp; omega
      clear hsm hor
      go_enter Try.func4, Try.ntmps4
      go_wp2_with (first | (go_at_call 9; refine (new_any _).mono ?_; rintro e w1 ⟨A1, c1, B1, d1, rfl, hA1, hB1, hF1⟩) | (go_at_call 29; refine (rnew_any _).mono ?_; rintro e w1 ⟨A2, c2, B2, d2, rfl, hA2, hB2, hF2⟩) | (go_at_call 24; refine (same_any _ _ _ _ _ _ _ _ _ _ _ _ _ _ _ _ _ (Rd.of_own (own_ext hA1 hF2)) (Rd.of_own (own_ext hB1 hF2)) (Rd.of_own hA2) (Rd.of_own hB2) (by omega) (by omega) (by omega) (by omega)).mono ?_; rintro e w1 ⟨rfl, hF3⟩) | (go_at_call 7; refine (awake_any _).mono ?_; rintro e w1 ⟨rfl, hF7⟩))
      go_ret
      exact ⟨rfl, Ext.trans (by (repeat (first | (with_reducible exact Ext.refl _) | assumption | (with_reducible refine Ext.alloc ?_ _) | (with_reducible refine Ext.drew ?_) | (with_reducible refine Ext.drewL ?_) | refine Ext.trans ?_ (by assumption)))) hF7⟩
end Go.Proofs.Ytgjgnokfmjeekaa
