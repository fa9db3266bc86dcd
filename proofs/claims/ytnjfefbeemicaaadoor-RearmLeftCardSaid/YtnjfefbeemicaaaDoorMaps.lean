/-
  A map of int keys that the call has just made: a store of a new key, a look-up.
-/
import Derived.Test.YtnjfefbeemicaaaDoorMem
import Derived.MapKept
namespace Go.Proofs.YtnjfefbeemicaaaDoor
open Go.RowKit Go.MapKept

theorem alloc_put (w : World) (o o' : Obj) : ({ (w.alloc o) with heap := (w.alloc o).heap.setIfInBounds w.heap.size o' } : World) = w.alloc o' := by
  have h : (w.heap.push o).setIfInBounds w.heap.size o' = w.heap.push o' := by
    apply Array.ext_getElem?
    intro i
    rw [Array.getElem?_setIfInBounds, Array.getElem?_push, Array.getElem?_push]
    by_cases h : w.heap.size = i
    · subst h; simp
    · rw [if_neg h]
      have : ¬ i = w.heap.size := fun e => h e.symm
      simp [this]
  show ({ w with heap := (w.heap.push o).setIfInBounds w.heap.size o' } : World) = { w with heap := w.heap.push o' }
  rw [h]
theorem ins_new {P : Program} {T K E : TypeId} (w : World) (es : Array MapEntry) (c : Nat) (k : Int) (v : Value) (hu : P.underlying T = some (.map K E)) (hk : P.underlying K = some (.int .i64))
    (hf : Instr.findNow (.int .i64) (.int .i64 k) es.toList 0 = some none) :
    (Instr.mapUpdate T (.map (some w.heap.size)) (.int .i64 k) v).run P (w.alloc (.map es c)) = .ok () (w.alloc (.map (es.push { key := .int .i64 k, val := v, born := c }) (c + 1))) := by
  have hb := (heap_alloc w (.map es c)).1
  simp only [Instr.mapUpdate, Sem.run_bind, run_underlying hu, Result.andThen_ok, Go.MapKept.run_getObj_map hb, run_checkKey hk (k := .int .i64 k) (by trivial) false 9999, run_findKey hk hf, Go.MapKept.run_setObj_map _ hb]
  rw [alloc_put]
theorem look_new {P : Program} {T K E : TypeId} (w : World) (es : Array MapEntry) (c i : Nat) (k : Int) (v : Value) (hu : P.underlying T = some (.map K E)) (hk : P.underlying K = some (.int .i64))
    (hf : Instr.findNow (.int .i64) (.int .i64 k) es.toList 0 = some (some (i, v))) :
    (Instr.lookup T (.map (some w.heap.size)) (.int .i64 k) false).run P (w.alloc (.map es c)) = .ok v (w.alloc (.map es c)) := by
  have hb := (heap_alloc w (.map es c)).1
  simp only [Instr.lookup, Sem.run_bind, run_underlying hu, Result.andThen_ok, Go.MapKept.run_getObj_map hb, run_checkKey hk (k := .int .i64 k) (by trivial) _ 9999, run_findKey hk hf, Sem.run_pure]
  rfl
end Go.Proofs.YtnjfefbeemicaaaDoor
