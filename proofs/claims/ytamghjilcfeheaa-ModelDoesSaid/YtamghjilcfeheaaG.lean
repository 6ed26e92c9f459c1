/- The pure model of graphs: valid ones, what is reached, what an operation does. Plain facts, no walk. -/
import Derived.Test.YtamghjilcfeheaaF
namespace Go.Proofs.Ytamghjilcfeheaa
open Go.RowKit Go.Draw

/-- the least handle that is free, less one; 32 if there is none -/
def freeT (us : List Bool) : Nat := us.idxOf false
def hErr (g : Gr) (x : Int) (need : Bool) : Int :=
  if x = 0 then (if need then 16 else 0) else if x < 1 ∨ 32 < x ∨ g.us.getD (x - 1).toNat false = false then 14 else 0
def hNd (g : Gr) (x : Int) : Int := if x = 0 then -1 else g.rs.getD (x - 1).toNat 0

structure Vld (g : Gr) : Prop where
  lu : g.us.length = 32
  lr : g.rs.length = 32
  un : ∀ (i : Nat) (r : Int), g.us[i]? = some false → g.rs[i]? = some r → r = -1
  us : ∀ (i : Nat) (r : Int), g.us[i]? = some true → g.rs[i]? = some r → 0 ≤ r ∧ r < g.ns.length
  nd : ∀ (i : Nat) (x : List Int × List Int), g.ns[i]? = some x → x.1.length ≤ 15 ∧ x.2.length ≤ 32 ∧ ∀ (k : Nat) (r : Int), x.1[k]? = some r → -1 ≤ r ∧ r < g.ns.length
noncomputable def vldB (g : Gr) : Bool := @decide (Vld g) (Classical.propDecidable _)
theorem vldB_true {g : Gr} : vldB g = true ↔ Vld g := by simp [vldB]
theorem vldB_false {g : Gr} : vldB g = false ↔ ¬ Vld g := by simp [vldB]

inductive Rch (g : Gr) : Nat → Prop
  | root {i n : Nat} : g.us[i]? = some true → g.rs[i]? = some (n : Int) → Rch g n
  | step {m n : Nat} {x : List Int × List Int} {k : Nat} : Rch g m → g.ns[m]? = some x → x.1[k]? = some (n : Int) → Rch g n
noncomputable def rchB (g : Gr) (n : Nat) : Bool := @decide (Rch g n) (Classical.propDecidable _)
theorem rchB_true {g : Gr} {n : Nat} : rchB g n = true ↔ Rch g n := by simp [rchB]
noncomputable def reachL (g : Gr) : List Nat := (List.range g.ns.length).filter (rchB g)
def wordsOf (x : List Int × List Int) : Nat := 1 + x.1.length + x.2.length
def sumL (g : Gr) (l : List Nat) : Nat := (l.map fun n => wordsOf (g.ns.getD n ([], []))).sum
noncomputable def liveT (g : Gr) : Nat := sumL g (reachL g)

def wrapU (d : Int) : Int := IntKind.u64.wrap d
noncomputable def accT (g : Gr) (n : Nat) (c a b d : Int) : Gr × Int × Int :=
  if c = 7 then (⟨g.ns, g.us.set (a - 1).toNat false, g.rs.set (a - 1).toNat (-1)⟩, 0, 0)
  else if c = 9 then (g, 0, 256 * ((g.ns.getD n ([], [])).1.length : Int) + (g.ns.getD n ([], [])).2.length)
  else if c = 4 then
    if b < 0 ∨ ((g.ns.getD n ([], [])).2.length : Int) ≤ b then (g, 17, 0) else (g, 0, (g.ns.getD n ([], [])).2.getD b.toNat 0)
  else if c = 5 then
    if b < 0 ∨ ((g.ns.getD n ([], [])).2.length : Int) ≤ b then (g, 17, 0)
    else (⟨g.ns.set n ((g.ns.getD n ([], [])).1, (g.ns.getD n ([], [])).2.set b.toNat (wrapU d)), g.us, g.rs⟩, 0, 0)
  else if b < 0 ∨ ((g.ns.getD n ([], [])).1.length : Int) ≤ b then (g, 17, 0)
  else if c = 3 then
    if hErr g d false ≠ 0 then (g, hErr g d false, 0)
    else (⟨g.ns.set n ((g.ns.getD n ([], [])).1.set b.toNat (hNd g d), (g.ns.getD n ([], [])).2), g.us, g.rs⟩, 0, 0)
  else if (g.ns.getD n ([], [])).1.getD b.toNat 0 = -1 then (g, 0, 0)
  else if freeT g.us < 32 then (⟨g.ns, g.us.set (freeT g.us) true, g.rs.set (freeT g.us) ((g.ns.getD n ([], [])).1.getD b.toNat 0)⟩, 0, (freeT g.us : Int) + 1)
  else (g, 15, 0)
noncomputable def doT (g : Gr) (c a b d : Int) : Gr × Int × Int :=
  if c = 1 then
    if a < 0 ∨ 15 < a ∨ b < 0 ∨ 32 < b then (g, 13, 0)
    else if freeT g.us < 32 then (⟨g.ns ++ [(List.replicate a.toNat (-1), List.replicate b.toNat 0)], g.us.set (freeT g.us) true, g.rs.set (freeT g.us) g.ns.length⟩, 0, (freeT g.us : Int) + 1)
    else (g, 15, 0)
  else if c = 8 then (g, 0, 0)
  else if c = 10 then (g, 0, (liveT g : Int))
  else if c = 6 then
    if hErr g a false ≠ 0 then (g, hErr g a false, 0)
    else if hErr g b false ≠ 0 then (g, hErr g b false, 0)
    else (g, 0, if hNd g a = hNd g b then 1 else 0)
  else if c = 2 ∨ c = 3 ∨ c = 4 ∨ c = 5 ∨ c = 7 ∨ c = 9 then
    if hErr g a true ≠ 0 then (g, hErr g a true, 0) else accT g (hNd g a).toNat c a b d
  else (g, 20, 0)
end Go.Proofs.Ytamghjilcfeheaa
