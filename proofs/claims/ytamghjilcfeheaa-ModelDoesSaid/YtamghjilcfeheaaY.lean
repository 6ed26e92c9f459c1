/- The reference's Do answers as the pure operation says. Conditions: a valid graph of at most 1000 nodes. -/
import Derived.Test.YtamghjilcfeheaaJ
import Derived.Test.YtamghjilcfeheaaK
import Derived.Test.YtamghjilcfeheaaL
import Derived.Test.YtamghjilcfeheaaN
import Derived.Test.YtamghjilcfeheaaO
import Derived.Test.YtamghjilcfeheaaOO
import Derived.Test.YtamghjilcfeheaaP
import Derived.Test.YtamghjilcfeheaaQ
import Derived.Test.YtamghjilcfeheaaQE
import Derived.Test.YtamghjilcfeheaaSa
import Derived.Test.YtamghjilcfeheaaSb
import Derived.Test.YtamghjilcfeheaaSc
import Derived.Test.YtamghjilcfeheaaT
import Derived.Test.YtamghjilcfeheaaX
import Derived.Test.YtamghjilcfeheaaM
namespace Go.Proofs.Ytamghjilcfeheaa
open Go.RowKit Go.Draw

theorem do27_acc (v : Value) (g : Gr) (c b d : Int) (i m : Nat) (x : List Int × List Int) (w : World) {S : List Nat} (hSb : ∀ x ∈ S, x < w.heap.size) (hg0 : GRx S w v g) (hv : Vld g) (hb : Bd g) (hc : c = 2 ∨ c = 3 ∨ c = 4 ∨ c = 5 ∨ c = 7 ∨ c = 9) (hi : i < 32) (hu : g.us[i]? = some true) (hr : g.rs[i]? = some (m : Int)) (hx : g.ns[m]? = some x) :
    Calls Try.prog 27 #[v, .agg #[.int .i64 c, .int .i64 ((i : Int) + 1), .int .i64 b, .int .i64 d]] w (RetDo S w (accT g m c ((i : Int) + 1) b d)) := by
  have e : g.ns.getD m ([], []) = x := by rw [List.getD_eq_getElem?_getD, hx]; rfl
  rcases hc with rfl | rfl | rfl | rfl | rfl | rfl
  · by_cases hk : b < 0 ∨ (x.1.length : Int) ≤ b
    · have ht : accT g m 2 ((i : Int) + 1) b d = (g, 17, 0) := by unfold accT; rw [e, if_neg (by omega), if_neg (by omega), if_neg (by omega), if_neg (by omega), if_pos hk]
      rw [ht]
      exact do27_out2 v g b d i m x w hSb hg0 hv hb hi hu hr hx hk
    · obtain ⟨k, rfl⟩ : ∃ k : Nat, b = k := ⟨b.toNat, by omega⟩
      have hk' : k < x.1.length := by omega
      by_cases hn : x.1.getD k 0 = -1
      · exact do27_2a v g d i m k x w hSb hg0 hv hb hi hu hr hx hk' hn
      · by_cases hf : freeT g.us < 32
        · exact do27_2c v g d i m k x w hSb hg0 hv hb hi hu hr hx hk' hn hf
        · exact do27_2b v g d i m k x w hSb hg0 hv hb hi hu hr hx hk' hn hf
  · by_cases hk : b < 0 ∨ (x.1.length : Int) ≤ b
    · have ht : accT g m 3 ((i : Int) + 1) b d = (g, 17, 0) := by unfold accT; rw [e, if_neg (by omega), if_neg (by omega), if_neg (by omega), if_neg (by omega), if_pos hk]
      rw [ht]
      exact do27_out3 v g b d i m x w hSb hg0 hv hb hi hu hr hx hk
    · obtain ⟨k, rfl⟩ : ∃ k : Nat, b = k := ⟨b.toNat, by omega⟩
      have hk' : k < x.1.length := by omega
      by_cases hd : hErr g d false = 0
      · exact do27_3 v g d i m k x w hSb hg0 hv hb hi hu hr hx hk' hd
      · exact do27_3e v g d i m k x w hSb hg0 hv hb hi hu hr hx hk' hd
  · by_cases hk : b < 0 ∨ (x.2.length : Int) ≤ b
    · have ht : accT g m 4 ((i : Int) + 1) b d = (g, 17, 0) := by unfold accT; rw [e, if_neg (by omega), if_neg (by omega), if_pos rfl, if_pos hk]
      rw [ht]
      exact do27_out4 v g b d i m x w hSb hg0 hv hb hi hu hr hx hk
    · obtain ⟨k, rfl⟩ : ∃ k : Nat, b = k := ⟨b.toNat, by omega⟩
      exact do27_4 v g d i m k x w hSb hg0 hv hb hi hu hr hx (by omega)
  · by_cases hk : b < 0 ∨ (x.2.length : Int) ≤ b
    · have ht : accT g m 5 ((i : Int) + 1) b d = (g, 17, 0) := by unfold accT; rw [e, if_neg (by omega), if_neg (by omega), if_neg (by omega), if_pos rfl, if_pos hk]
      rw [ht]
      exact do27_out5 v g b d i m x w hSb hg0 hv hb hi hu hr hx hk
    · obtain ⟨k, rfl⟩ : ∃ k : Nat, b = k := ⟨b.toNat, by omega⟩
      exact do27_5 v g d i m k x w hSb hg0 hv hb hi hu hr hx (by omega)
  · exact do27_7 v g b d i m x w hSb hg0 hv hb hi hu hr hx
  · exact do27_9 v g b d i m x w hSb hg0 hv hb hi hu hr hx

theorem do27_any (v : Value) (g : Gr) (c a b d : Int) (w : World) {S : List Nat} (hSb : ∀ x ∈ S, x < w.heap.size) (hg0 : GRx S w v g) (hv : Vld g) (hn : g.ns.length ≤ 1000) :
    Calls Try.prog 27 #[v, .agg #[.int .i64 c, .int .i64 a, .int .i64 b, .int .i64 d]] w (RetDo S w (doT g c a b d)) := by
  have hb := hv.bd hn
  by_cases h1 : c = 1
  · subst h1
    by_cases hs : a < 0 ∨ 15 < a ∨ b < 0 ∨ 32 < b
    · have ht : doT g 1 a b d = (g, 13, 0) := by simp [doT, hs]
      rw [ht]
      exact do27_size v g a b d w hSb hg0 hb hs
    · obtain ⟨p, rfl⟩ : ∃ p : Nat, a = p := ⟨a.toNat, by omega⟩
      obtain ⟨q, rfl⟩ : ∃ q : Nat, b = q := ⟨b.toNat, by omega⟩
      by_cases hf : freeT g.us < 32
      · have ht : doT g 1 p q d = (⟨g.ns ++ [(List.replicate p (-1), List.replicate q 0)], g.us.set (freeT g.us) true, g.rs.set (freeT g.us) g.ns.length⟩, 0, (freeT g.us : Int) + 1) := by simp only [doT, if_true]; rw [if_neg hs, if_pos hf]; simp
        rw [ht]
        exact do27_alloc v g p q d w hSb hg0 hv hb (by omega) (by omega) hf
      · have ht : doT g 1 p q d = (g, 15, 0) := by simp only [doT, if_true]; rw [if_neg hs, if_neg hf]
        rw [ht]
        exact do27_full v g p q d w hSb hg0 hv hb (by omega) (by omega) hf
  by_cases h8 : c = 8
  · subst h8
    have ht : doT g 8 a b d = (g, 0, 0) := by simp [doT]
    rw [ht]
    exact do27_8 v g a b d w hSb hg0 hb
  by_cases h10 : c = 10
  · subst h10
    have ht : doT g 10 a b d = (g, 0, (liveT g : Int)) := by simp [doT]
    rw [ht]
    exact do27_10 v g a b d w hSb hg0 hv hb
  by_cases h6 : c = 6
  · subst h6
    exact do27_6 v g a b d w hSb hg0 hv hb
  by_cases hm : c = 2 ∨ c = 3 ∨ c = 4 ∨ c = 5 ∨ c = 7 ∨ c = 9
  · by_cases he : hErr g a true = 0
    · have ht : doT g c a b d = accT g (hNd g a).toNat c a b d := by unfold doT; rw [if_neg h1, if_neg h8, if_neg h10, if_neg h6, if_pos hm, if_neg (by simpa using he)]
      rw [ht]
      rcases hErr_ok hv.lu he with ⟨_, h0⟩ | ⟨i, rfl, hi, hu⟩
      · cases h0
      · obtain ⟨m, x, _, hr, hx⟩ := hv.at_ hu
        rw [hNd_in g i _ hr, Int.toNat_natCast]
        exact do27_acc v g c b d i m x w hSb hg0 hv hb hm hi hu hr hx
    · have ht : doT g c a b d = (g, hErr g a true, 0) := by unfold doT; rw [if_neg h1, if_neg h8, if_neg h10, if_neg h6, if_pos hm, if_pos he]
      rw [ht]
      exact do27_err v g c a b d w hSb hg0 hv hb hm he
  · have ht : doT g c a b d = (g, 20, 0) := by unfold doT; rw [if_neg h1, if_neg h8, if_neg h10, if_neg h6, if_neg hm]
    rw [ht]
    exact do27_bad v g c a b d w hSb hg0 hb (by omega)
end Go.Proofs.Ytamghjilcfeheaa
