/- The walks of Mod, of awake and of the law ArenaWords. Conditions: the ranges that each theorem states. -/
import Derived.Test.YtodoeckikkeacaaE
namespace Go.Proofs.Ytodoeckikkeacaa
open Go.RowKit Go.Draw

theorem mod_any (v n : Int) (w : World) (h1 : 1 ≤ n) (h2 : n ≤ 9223372036854775807) :
    Calls Try.prog 8 #[.int .i64 v, .int .i64 n] w fun e w' => e = .returned (.int .i64 (v % n)) ∧ w = w' := by
  go_enter Try.func8, Try.ntmps8
  go_wp2
  · go_ret
    exact ⟨ret_int (tmod_lt h1 h2 (by assumption)), rfl⟩
  · go_ret
    exact ⟨ret_int (tmod_ge h1 (by assumption)), rfl⟩

theorem copy_is (A : Option Addr) (n c : Nat) (rs : List Int) (a b k : Int) (l : List Int) (er : Int) (w : World) (hr : Rd w A n 1 (words rs)) (hn : n ≤ 1000000) (hcp : n ≤ c) (h : copyA rs a b k = (l, er)) :
    Calls Try.prog 9 #[.slice A n c, .int .i64 a, .int .i64 b, .int .i64 k] w fun r w' => RetW w l er r w' := by
  have := copy_any A n c rs a b k w hr hn hcp
  rwa [h] at this
theorem copy_four : copyA [1, 2, 3, 4] 0 1 3 = ([1, 1, 2, 3], 0) := by decide
set_option maxHeartbeats 1000000 in
theorem awake_any (w : World) : Calls Try.prog 7 #[] w fun r w' => r = .returned (.bool true) ∧ Ext w w' := by
  go_enter Try.func7, Try.ntmps7
  go_wp2_with (first | (go_at_call 9; refine (copy_is (some ⟨w.heap.size, 0, none⟩) 4 4 [1, 2, 3, 4] 0 1 3 _ _ _ (rd_new w (words [1, 2, 3, 4]) 23 4 1 rfl) (by omega) (by omega) copy_four).mono ?_; rintro e w1 ⟨A, d, rfl, hB, hE⟩; obtain ⟨g, rfl, hg1, hg2⟩ := own_form hB (by simp); obtain ⟨hcg, hfg⟩ := own_cells hB; have q0 := hcg 0 _ rfl; have q1 := hcg 1 _ rfl; have q2 := hcg 2 _ rfl; have q3 := hcg 3 _ rfl; clear hcg))
  go_ret
  exact ⟨rfl, by (repeat (first | (with_reducible exact Ext.refl _) | assumption | (with_reducible refine Ext.alloc ?_ _) | (with_reducible refine Ext.drew ?_) | (with_reducible refine Ext.drewL ?_) | refine Ext.trans ?_ (by assumption)))⟩

theorem makeA_len (n : Int) : (makeA n).1.length ≤ 16384 := by
  unfold makeA
  split
  · simp; omega
  · simp
theorem writeA_len (rs : List Int) (a v : Int) : (writeA rs a v).1.length ≤ rs.length := by
  unfold writeA
  split <;> simp
theorem copyA_len (rs : List Int) (a b k : Int) : (copyA rs a b k).1.length ≤ rs.length := by
  unfold copyA
  split
  · simp
  · split
    · rw [sets_length]; exact Nat.le_refl _
    · simp
theorem fillA_len (rs : List Int) (a k v : Int) : (fillA rs a k v).1.length ≤ rs.length := by
  unfold fillA
  split
  · simp
  · split
    · rw [sets_length]; exact Nat.le_refl _
    · simp
theorem make_is (n : Int) (l : List Int) (er : Int) (w : World) (h : makeA n = (l, er)) : Calls Try.prog 16 #[.int .i64 n] w fun r w' => RetW w l er r w' := by
  have := make_any n w; rwa [h] at this
theorem rmake_is (n : Int) (l : List Int) (er : Int) (w : World) (h : makeA n = (l, er)) : Calls Try.prog 17 #[.int .i64 n] w fun r w' => RetW w l er r w' := by
  have := rmake_any n w; rwa [h] at this
theorem write_is (A : Option Addr) (n c : Nat) (rs : List Int) (a v : Int) (l : List Int) (er : Int) (w : World) (hr : Rd w A n 1 (words rs)) (hn : n ≤ 1000000) (h : writeA rs a v = (l, er)) :
    Calls Try.prog 19 #[.slice A n c, .int .i64 a, .int .u64 v] w fun r w' => RetW w l er r w' := by
  have := write_any A n c rs a v w hr hn; rwa [h] at this
theorem rwrite_is (A : Option Addr) (n c : Nat) (rs : List Int) (a v : Int) (l : List Int) (er : Int) (w : World) (hr : Rd w A n 1 (words rs)) (hn : n ≤ 1000000) (h : writeA rs a v = (l, er)) :
    Calls Try.prog 20 #[.slice A n c, .int .i64 a, .int .u64 v] w fun r w' => RetW w l er r w' := by
  have := rwrite_any A n c rs a v w hr hn; rwa [h] at this
theorem read_is (A : Option Addr) (n c : Nat) (rs : List Int) (a x er : Int) (w : World) (hr : Rd w A n 1 (words rs)) (hn : n ≤ 1000000) (h : readA rs a = (x, er)) :
    Calls Try.prog 15 #[.slice A n c, .int .i64 a] w fun r w' => r = .returned (.tuple #[.int .u64 x, .int .i64 er]) ∧ Ext w w' := by
  have := read_any A n c rs a w hr hn; rwa [h] at this
theorem rread_is (A : Option Addr) (n c : Nat) (rs : List Int) (a x er : Int) (w : World) (hr : Rd w A n 1 (words rs)) (hn : n ≤ 1000000) (h : readA rs a = (x, er)) :
    Calls Try.prog 18 #[.slice A n c, .int .i64 a] w fun r w' => r = .returned (.tuple #[.int .u64 x, .int .i64 er]) ∧ Ext w w' := by
  have := rread_any A n c rs a w hr hn; rwa [h] at this
theorem same_self (A B : Option Addr) (n m c d : Nat) (xs : List Int) (w : World) (hx : Rd w A n 1 (words xs)) (hy : Rd w B m 1 (words xs)) (hn : n ≤ 1000000) (hm : m ≤ 1000000) :
    Calls Try.prog 13 #[.slice A n c, .slice B m d] w fun r w' => r = .returned (.bool true) ∧ Ext w w' := by
  have := same_any A B n m c d xs xs w hx hy hn hm; rwa [show decide (xs = xs) = true by simp] at this

/-- three integers in block b -/
def Ints3 (w : World) (b k : Nat) : Prop := ∀ j, j < k → ∃ z, w.cell? ⟨b, j, none⟩ = some (.int .i64 z)
theorem Ints3.ext {w w' : World} {b k : Nat} (h : Ints3 w b k) (he : Ext w w') : Ints3 w' b k := fun j hj => by
  obtain ⟨z, hz⟩ := h j hj
  exact ⟨z, cell_ext he hz⟩
theorem ints3_mk {w : World} {b : Nat} {x y z : Int} (h : Blk w b 3 #[.int .i64 x, .int .i64 y, .int .i64 z]) : Ints3 w b 3
  | 0, _ => ⟨x, h.cell 0⟩
  | 1, _ => ⟨y, h.cell 1⟩
  | 2, _ => ⟨z, h.cell 2⟩
  | j + 3, hj => absurd hj (by omega)
theorem ints2_mk {w : World} {b : Nat} {x y : Int} (h : Blk w b 3 #[.int .i64 x, .int .i64 y]) : Ints3 w b 2
  | 0, _ => ⟨x, h.cell 0⟩
  | 1, _ => ⟨y, h.cell 1⟩
  | j + 2, hj => absurd hj (by omega)

set_option maxRecDepth 100000 in
set_option maxHeartbeats 4000000 in
theorem arenawords_any (A : Option Addr) (n c : Nat) (rs : List Int) (x0 a v : Int) (w : World) (hr : Rd w A n 1 (words rs)) :
    Calls Try.prog 5 #[.slice A n c, .int .i64 x0, .int .i64 a, .int .u64 v] w fun r w' => r = .returned (.bool true) ∧ Ext w w' := by
  by_cases hn : n ≤ 600
  · have hd1 : decide ((600 : Int) < n) = false := by simp; omega
    have hd1' : decide (600 < n) = false := by simp; omega
    have hl : rs.length = n := by have := hr.1; simpa [words] using this
    have Hl := Lib.hid hl
    clear hl
    go_enter Try.func5, Try.ntmps5
    go_wp2_with (first | (go_at_call 8; refine (mod_any _ _ _ (by omega) (by omega)).mono ?_; rintro e w1 ⟨rfl, rfl⟩))
    have hI := ints3_mk (w := w.alloc (.cells #[.int .i64 x0, .int .i64 (x0 % 50), .int .i64 (16385 + x0 % 3)] 3)) (Blk.new rfl)
    go_loopw [37] (fun i wr => ∃ k : Nat, k ≤ 3 ∧ i = .int .i64 k ∧ Ext w wr ∧ Ints3 wr w.heap.size 3) (fun i _ => 3 - (intOf i).toNat)
    case atStart => exact ⟨0, by omega, rfl, by (repeat (first | (with_reducible exact Ext.refl _) | assumption | (with_reducible refine Ext.alloc ?_ _) | (with_reducible refine Ext.drew ?_) | (with_reducible refine Ext.drewL ?_) | refine Ext.trans ?_ (by assumption))), hI⟩
    case round =>
      obtain ⟨k, hk, rfl, hEr, hIr⟩ := hrel
      clear hI
      by_cases hk3 : k < 3
      · have dk : decide ((k : Int) < 3) = true := by simp; omega
        have dk' : decide (k < 3) = true := by simp; omega
        have hkI : (k : Int) < 3 := by omega
        obtain ⟨z, hz⟩ := hIr k hk3
        have hzb := cell_lt hz
        obtain ⟨l, er, hm⟩ : ∃ l er, makeA z = (l, er) := ⟨_, _, rfl⟩
        have hll : l.length ≤ 16384 := by have := makeA_len z; rwa [hm] at this
        have hne : (er != er) = false := by simp
        have Hm := Lib.hid hm
        clear hm
        go_wp2_with (first | (go_at_call 16; refine (make_is _ _ _ _ Hm.out).mono ?_; rintro e w1 ⟨A1, c1, rfl, hA1, hE1⟩) | (go_at_call 17; refine (rmake_is _ _ _ _ Hm.out).mono ?_; rintro e w1 ⟨A2, c2, rfl, hA2, hE2⟩) | (go_at_call 13; refine (same_self _ _ _ _ _ _ l _ ((Rd.of_own hA1).ext (by (repeat (first | (with_reducible exact Ext.refl _) | assumption | (with_reducible refine Ext.alloc ?_ _) | (with_reducible refine Ext.drew ?_) | (with_reducible refine Ext.drewL ?_) | refine Ext.trans ?_ (by assumption))))) ((Rd.of_own hA2).ext (by (repeat (first | (with_reducible exact Ext.refl _) | assumption | (with_reducible refine Ext.alloc ?_ _) | (with_reducible refine Ext.drew ?_) | (with_reducible refine Ext.drewL ?_) | refine Ext.trans ?_ (by assumption))))) (by omega) (by omega)).mono ?_; rintro e w1 ⟨rfl, hE3⟩))
        have hX : Ext wr w1 := by (repeat (first | (with_reducible exact Ext.refl _) | assumption | (with_reducible refine Ext.alloc ?_ _) | (with_reducible refine Ext.drew ?_) | (with_reducible refine Ext.drewL ?_) | refine Ext.trans ?_ (by assumption)))
        go_roundw
        case rel => exact ⟨k + 1, by omega, by go_num, by (repeat (first | (with_reducible exact Ext.refl _) | assumption | (with_reducible refine Ext.alloc ?_ _) | (with_reducible refine Ext.drew ?_) | (with_reducible refine Ext.drewL ?_) | refine Ext.trans ?_ (by assumption))), hIr.ext hX⟩
        case measure => simp [intOf]; omega
      · have dk : decide ((k : Int) < 3) = false := by simp; omega
        have dk' : decide (k < 3) = false := by simp; omega
        clear hIr hk hk3
        rename World => wn
        go_wp2_with (first | (go_at_call 8; refine (mod_any _ _ _ (by omega) (by omega)).mono ?_; rintro e w1 ⟨rfl, rfl⟩))
        have hI := ints2_mk (w := wn.alloc (.cells #[.int .i64 a, .int .i64 (wrap64 (a % ((n : Int) + 3) - 1))] 3)) (Blk.new rfl)
        go_loopw [70] (fun i wr => ∃ k : Nat, k ≤ 2 ∧ i = .int .i64 k ∧ Ext wn wr ∧ Ints3 wr wn.heap.size 2) (fun i _ => 2 - (intOf i).toNat)
        case atStart => exact ⟨0, by omega, rfl, by (repeat (first | (with_reducible exact Ext.refl _) | assumption | (with_reducible refine Ext.alloc ?_ _) | (with_reducible refine Ext.drew ?_) | (with_reducible refine Ext.drewL ?_) | refine Ext.trans ?_ (by assumption))), hI⟩
        case round =>
          obtain ⟨k, hk, rfl, hEx, hIr⟩ := hrel
          clear hI
          have hE0 : Ext w wr := hEr.trans hEx
          by_cases hk3 : k < 2
          · have dk : decide ((k : Int) < 2) = true := by simp; omega
            have dk' : decide (k < 2) = true := by simp; omega
            have hkI : (k : Int) < 2 := by omega
            obtain ⟨z, hz⟩ := hIr k hk3
            have hzb := cell_lt hz
            obtain ⟨x, er, hm⟩ : ∃ x er, readA rs z = (x, er) := ⟨_, _, rfl⟩
            obtain ⟨l, er2, hm2⟩ : ∃ l er, writeA rs z v = (l, er) := ⟨_, _, rfl⟩
            have hll : l.length ≤ 600 := by have := writeA_len rs z v; rw [hm2] at this; simp only at this; have := Hl.out; omega
            have hne : (er != er) = false := by simp
            have hne2 : (er2 != er2) = false := by simp
            have hne3 : (x != x) = false := by simp
            have Hr := Lib.hid hm
            have Hw := Lib.hid hm2
            clear hm hm2
            go_wp2_with (first | (go_at_call 15; refine (read_is _ _ _ rs _ _ _ _ (hr.ext (by (repeat (first | (with_reducible exact Ext.refl _) | assumption | (with_reducible refine Ext.alloc ?_ _) | (with_reducible refine Ext.drew ?_) | (with_reducible refine Ext.drewL ?_) | refine Ext.trans ?_ (by assumption))))) (by omega) Hr.out).mono ?_; rintro e w1 ⟨rfl, hE1⟩) | (go_at_call 18; refine (rread_is _ _ _ rs _ _ _ _ (hr.ext (by (repeat (first | (with_reducible exact Ext.refl _) | assumption | (with_reducible refine Ext.alloc ?_ _) | (with_reducible refine Ext.drew ?_) | (with_reducible refine Ext.drewL ?_) | refine Ext.trans ?_ (by assumption))))) (by omega) Hr.out).mono ?_; rintro e w1 ⟨rfl, hE2⟩) | (go_at_call 19; refine (write_is _ _ _ rs _ _ _ _ _ (hr.ext (by (repeat (first | (with_reducible exact Ext.refl _) | assumption | (with_reducible refine Ext.alloc ?_ _) | (with_reducible refine Ext.drew ?_) | (with_reducible refine Ext.drewL ?_) | refine Ext.trans ?_ (by assumption))))) (by omega) Hw.out).mono ?_; rintro e w1 ⟨A1, c1, rfl, hA1, hE3⟩) | (go_at_call 20; refine (rwrite_is _ _ _ rs _ _ _ _ _ (hr.ext (by (repeat (first | (with_reducible exact Ext.refl _) | assumption | (with_reducible refine Ext.alloc ?_ _) | (with_reducible refine Ext.drew ?_) | (with_reducible refine Ext.drewL ?_) | refine Ext.trans ?_ (by assumption))))) (by omega) Hw.out).mono ?_; rintro e w1 ⟨A2, c2, rfl, hA2, hE4⟩) | (go_at_call 13; refine (same_self _ _ _ _ _ _ l _ ((Rd.of_own hA1).ext (by (repeat (first | (with_reducible exact Ext.refl _) | assumption | (with_reducible refine Ext.alloc ?_ _) | (with_reducible refine Ext.drew ?_) | (with_reducible refine Ext.drewL ?_) | refine Ext.trans ?_ (by assumption))))) ((Rd.of_own hA2).ext (by (repeat (first | (with_reducible exact Ext.refl _) | assumption | (with_reducible refine Ext.alloc ?_ _) | (with_reducible refine Ext.drew ?_) | (with_reducible refine Ext.drewL ?_) | refine Ext.trans ?_ (by assumption))))) (by omega) (by omega)).mono ?_; rintro e w1 ⟨rfl, hE5⟩))
            have hX : Ext wr w1 := by (repeat (first | (with_reducible exact Ext.refl _) | assumption | (with_reducible refine Ext.alloc ?_ _) | (with_reducible refine Ext.drew ?_) | (with_reducible refine Ext.drewL ?_) | refine Ext.trans ?_ (by assumption)))
            go_roundw
            case rel => exact ⟨k + 1, by omega, by go_num, by (repeat (first | (with_reducible exact Ext.refl _) | assumption | (with_reducible refine Ext.alloc ?_ _) | (with_reducible refine Ext.drew ?_) | (with_reducible refine Ext.drewL ?_) | refine Ext.trans ?_ (by assumption))), hIr.ext hX⟩
            case measure => simp [intOf]; omega
          · have dk : decide ((k : Int) < 2) = false := by simp; omega
            have dk' : decide (k < 2) = false := by simp; omega
            go_wp2_with (first | (go_at_call 7; refine (awake_any _).mono ?_; rintro e w1 ⟨rfl, hE7⟩))
            go_ret
            exact ⟨rfl, by (repeat (first | (with_reducible exact Ext.refl _) | assumption | (with_reducible refine Ext.alloc ?_ _) | (with_reducible refine Ext.drew ?_) | (with_reducible refine Ext.drewL ?_) | refine Ext.trans ?_ (by assumption)))⟩
  · have hd1 : decide ((600 : Int) < n) = true := by simp; omega
    have hd1' : decide (600 < n) = true := by simp; omega
    clear hr hn
    go_enter Try.func5, Try.ntmps5
    go_wp2_with (first | (go_at_call 7; refine (awake_any _).mono ?_; rintro e w1 ⟨rfl, hE7⟩))
    go_ret
    exact ⟨rfl, by (repeat (first | (with_reducible exact Ext.refl _) | assumption | (with_reducible refine Ext.alloc ?_ _) | (with_reducible refine Ext.drew ?_) | (with_reducible refine Ext.drewL ?_) | refine Ext.trans ?_ (by assumption)))⟩
end Go.Proofs.Ytodoeckikkeacaa
