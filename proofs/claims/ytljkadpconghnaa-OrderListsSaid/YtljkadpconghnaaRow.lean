/-
  The last step of a law's row, for any number and kind of arguments: what was there when the call began stands, so every argument reads as it did. Any program; nothing here names one.
-/
import Derived.Test.YtljkadpconghnaaMem
import Derived.ProofKit
import Derived.OpenShut
namespace Go.Draw
open Go.RowKit Go.WideShapes Go.ChangeShapes Go.ChangeAt
section
variable {H : Type} {enc : TypeId × Value → H} {P : Program} {W W' : World}

theorem trodAll_stays (hl : laidOutB P = true) (he : Ext W W') (sp : Nat → Bool) : ∀ (ts : List TypeId) (vs : List Value) (ds : List (DataW H)) (ps : List MemPlace), (∀ t ∈ ts, P.readableRec t = true ∧ t < P.types.size) →
    DataW.TrodAll enc P W 0 (fun _ => true) true ts vs ds ps → (∀ x ∈ ps, x.block < W.heap.size) → (∀ x ∈ ps, sp x.block = true) → DataW.TrodAll enc P W' 0 sp true ts vs ds ps
  | [], vs, ds, ps, _, h, _, _ => by
    obtain ⟨rfl, rfl, rfl⟩ := trodAll_nil h
    exact trodAll_mk0
  | t :: ts, vs, ds, ps, ht, h, hlt, hsp => by
    obtain ⟨v, vs', d, ds', p, q, rfl, rfl, rfl, h0, r⟩ := trodAll_cons h
    obtain ⟨h1, h2⟩ := ht t (by simp)
    exact trodAll_cons_mk (WideElems.Trod_stays hl h1 h2 h0 (fun x hx => Below.same he (hlt x (by simp [hx]))) (fun x hx => hsp x (by simp [hx])))
      (trodAll_stays hl he sp ts vs' ds' q (fun t' h' => ht t' (by simp [h'])) r (fun x hx => hlt x (by simp [hx])) (fun x hx => hsp x (by simp [hx])))

/-- a law's row: it answered true, and what was there stands -/
theorem law_post {f : Func} {s : ChangeSpec} {apart fresh handsOn again : Bool} {args : Array Value} {ds : List (DataW H)} {p : List MemPlace} (hl : laidOutB P = true)
    (hW : DataW.Whole enc P f.params.toList s.vars apart W args.toList ds [] (p ++ [])) (hA : DataW.TrodAll enc P W 0 (fun _ => true) true f.params.toList args.toList ds p)
    (hts : ∀ t ∈ f.params.toList, P.readableRec t = true ∧ t < P.types.size) (hv : s.vars = []) (hr : (s.fn H (ds ++ [])).results = [.lit (.bool true)]) (ha : (s.fn H (ds ++ [])).args = ds) (hgv : (s.fn H (ds ++ [])).vars = [])
    {tb : TypeId} (hb : P.underlying tb = some .bool) (hres : f.resultTypes = #[tb]) (he : Ext W W') : s.post enc P f apart fresh handsOn again W args (.bool true) W' := by
  have hlt : ∀ x ∈ p, x.block < W.heap.size := fun x hx => hW.lt x (by simp [hx])
  refine post_of_ext (pa := p) (pv := []) hW (fun b sp hd => ?_) (fun sp hsp => ?_) (fun sp hsp => ?_) rfl he ?_
  · rw [hr, hres]
    exact trodAll_cons_mk (shut_bool hb true) trodAll_mk0
  · rw [ha]
    exact trodAll_stays hl he sp _ _ _ _ hts hA hlt (fun x hx => hsp x (by simp [hx]))
  · rw [hv, hgv]
    rfl
  · intro j t r hj hrj
    rw [hres] at hj hrj
    match j, hj with
    | 0, hj =>
      simp at hj
      subst hj
      simp [Value.resultList] at hrj
      subst hrj
      exact okWide_bool_mk hb true
end

/-- cells at an address read -/
theorem rd_of_cells {w : World} {a : Addr} {n : Nat} {xs : List Value} (hn : xs.length = n) (h : ∀ i u, xs[i]? = some u → w.cell? (a.add i) = some u) : Rd w (some a) n 1 xs := by
  refine ⟨by omega, fun h0 => ?_⟩
  have hx : xs[0]? = some (xs[0]'(by omega)) := List.getElem?_eq_getElem (by omega)
  have h1 := h 0 _ hx
  have hs : a.spot = none := by
    simp only [Addr.add, if_true, World.cell?] at h1
    cases hsp : a.spot with
    | none => rfl
    | some s =>
      rw [hsp] at h1
      split at h1 <;> simp at h1
  obtain ⟨b, o, sp⟩ := a
  simp only at hs
  subst hs
  exact ⟨b, o, rfl, fun j u hu => by have := h j u hu; rwa [addr_add] at this⟩
end Go.Draw
