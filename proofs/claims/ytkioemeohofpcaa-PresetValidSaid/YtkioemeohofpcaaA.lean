/- The walks of the presets' rules. Conditions: the ranges that each theorem states. -/
import Derived.Test.YtkioemeohofpcaaRows
import Derived.WalkKit
import Derived.WalkSpells
import Derived.WalkLawsBesides
import Derived.Lib.Hide
import Derived.Carry
import Derived.Test.YtkioemeohofpcaaMem
namespace Go.Proofs.Ytkioemeohofpcaa
open Go.RowKit Go.Draw

theorem Try.mixed : Try.prog.follows .mixedOrders = true := by kernel_rfl
theorem ret_bool {a b : Bool} (h : a = b) : Ending.returned (.bool a) = .returned (.bool b) := by rw [h]
theorem ret_int {k : IntKind} {a b : Int} (h : a = b) : Ending.returned (.int k a) = .returned (.int k b) := by rw [h]
def sSemi : ByteArray := ⟨#[115, 101, 109, 105, 115, 112, 97, 99, 101]⟩
def sAppel : ByteArray := ⟨#[97, 112, 112, 101, 108]⟩
def sFixed : ByteArray := ⟨#[102, 105, 120, 101, 100]⟩
def sOlder : ByteArray := ⟨#[111, 108, 100, 101, 114, 45, 102, 105, 114, 115, 116]⟩
def sXx : ByteArray := ⟨#[120, 120]⟩
def sXx100 : ByteArray := ⟨#[120, 120, 49, 48, 48]⟩

theorem run_ins (w : World) (b : Nat) (es : Array MapEntry) (c : Nat) (k : ByteArray) (v : Value) (hb : b = w.heap.size) (h : Instr.findNow .string (.string k) es.toList 0 = some none) :
    (Instr.mapUpdate 47 (.map (some b)) (.string k) v).run Try.prog (w.alloc (.map es c)) = .ok () (w.alloc (.map (es.push { key := .string k, val := v, born := c }) (c + 1))) := by
  subst hb
  have hg : (w.alloc (.map es c)).heap[w.heap.size]? = some (.map es c) := heap_alloc_new w _
  have hc : (Instr.checkKey false 10000 9 (.string k)).run Try.prog (w.alloc (.map es c)) = .ok () (w.alloc (.map es c)) := MapKept.run_checkKey (k := .string k) Try.underlying9 (by simp [MapKept.IsKey]) false 9999
  simp [Instr.mapUpdate, run_underlying Try.underlying47, MapKept.run_getObj_map hg, hc, MapKept.run_findKey Try.underlying9 h, MapKept.run_setObj_map _ hg, Result.andThen]
  have hsp : ∀ (a : Array Obj) (x y : Obj), (a.push x).setIfInBounds a.size y = a.push y := fun a x y => by
    apply Array.ext'
    simp
  exact congrArg (fun H => ({ heap := H, tape := w.tape, drawn := w.drawn, os := w.os, output := w.output } : World)) (hsp w.heap _ _)

/-- the six presets of a map; p: where the share lies -/
def six (p : Addr) : Array MapEntry := #[{ key := .string sSemi, val := .func (.func 22) #[] #[], born := 0 }, { key := .string sAppel, val := .func (.func 23) #[] #[], born := 1 }, { key := .string sFixed, val := .func (.func 24) #[] #[.pointer (some p)], born := 2 },
  { key := .string sOlder, val := .func (.func 25) #[] #[.pointer (some p)], born := 3 }, { key := .string sXx, val := .func (.func 26) #[] #[.pointer (some p)], born := 4 }, { key := .string sXx100, val := .func (.func 27) #[] #[.pointer (some p)], born := 5 }]
set_option maxRecDepth 100000 in
set_option maxHeartbeats 1000000 in
theorem rules_any (x : Nat) (w : World) : Calls Try.prog 16 #[.float .f64 x] w fun e w' => e = .returned (.map (some (w.heap.size + 1))) ∧ w' = ((w.alloc (.cells #[.float .f64 x] 39)).alloc (.map (six ⟨w.heap.size, 0, none⟩) 6)) := by
  have hmf : ∀ (fn : Fn) (first cap : Array Value) (w : World), (Instr.makeFunc fn first cap).run Try.prog w = .ok (.func fn first cap) w := fun _ _ _ _ => rfl
  have hmm : ∀ w, (Instr.makeMap 47 none).run Try.prog w = .ok (.map (some w.heap.size)) (w.alloc (.map #[] 0)) := fun w => run_makeMap 47 w
  have hb : w.heap.size + 1 = (w.alloc (.cells #[.float .f64 x] 39)).heap.size := by simp
  have i0 := run_ins (w.alloc (.cells #[.float .f64 x] 39)) (w.heap.size + 1) #[] 0 sSemi (.func (.func 22) #[] #[]) hb rfl
  have i1 := run_ins (w.alloc (.cells #[.float .f64 x] 39)) (w.heap.size + 1) #[{ key := .string sSemi, val := .func (.func 22) #[] #[], born := 0 }] 1 sAppel (.func (.func 23) #[] #[]) hb rfl
  have i2 := run_ins (w.alloc (.cells #[.float .f64 x] 39)) (w.heap.size + 1) #[{ key := .string sSemi, val := .func (.func 22) #[] #[], born := 0 }, { key := .string sAppel, val := .func (.func 23) #[] #[], born := 1 }] 2 sFixed (.func (.func 24) #[] #[.pointer (some ⟨w.heap.size, 0, none⟩)]) hb rfl
  have i3 := run_ins (w.alloc (.cells #[.float .f64 x] 39)) (w.heap.size + 1) #[{ key := .string sSemi, val := .func (.func 22) #[] #[], born := 0 }, { key := .string sAppel, val := .func (.func 23) #[] #[], born := 1 }, { key := .string sFixed, val := .func (.func 24) #[] #[.pointer (some ⟨w.heap.size, 0, none⟩)], born := 2 }] 3 sOlder (.func (.func 25) #[] #[.pointer (some ⟨w.heap.size, 0, none⟩)]) hb rfl
  have i4 := run_ins (w.alloc (.cells #[.float .f64 x] 39)) (w.heap.size + 1) #[{ key := .string sSemi, val := .func (.func 22) #[] #[], born := 0 }, { key := .string sAppel, val := .func (.func 23) #[] #[], born := 1 }, { key := .string sFixed, val := .func (.func 24) #[] #[.pointer (some ⟨w.heap.size, 0, none⟩)], born := 2 }, { key := .string sOlder, val := .func (.func 25) #[] #[.pointer (some ⟨w.heap.size, 0, none⟩)], born := 3 }] 4 sXx (.func (.func 26) #[] #[.pointer (some ⟨w.heap.size, 0, none⟩)]) hb rfl
  have i5 := run_ins (w.alloc (.cells #[.float .f64 x] 39)) (w.heap.size + 1) #[{ key := .string sSemi, val := .func (.func 22) #[] #[], born := 0 }, { key := .string sAppel, val := .func (.func 23) #[] #[], born := 1 }, { key := .string sFixed, val := .func (.func 24) #[] #[.pointer (some ⟨w.heap.size, 0, none⟩)], born := 2 }, { key := .string sOlder, val := .func (.func 25) #[] #[.pointer (some ⟨w.heap.size, 0, none⟩)], born := 3 }, { key := .string sXx, val := .func (.func 26) #[] #[.pointer (some ⟨w.heap.size, 0, none⟩)], born := 4 }] 5 sXx100 (.func (.func 27) #[] #[.pointer (some ⟨w.heap.size, 0, none⟩)]) hb rfl
  simp only [List.push_toArray, List.cons_append, List.nil_append, Nat.zero_add, Nat.reduceAdd, sSemi, sAppel, sFixed, sOlder, sXx, sXx100] at i0 i1 i2 i3 i4 i5
  simp only [six, sSemi, sAppel, sFixed, sOlder, sXx, sXx100]
  clear hb
  go_enter Try.func16, Try.ntmps16
  go_wp2
  go_ret
  exact ⟨rfl, rfl⟩
end Go.Proofs.Ytkioemeohofpcaa
