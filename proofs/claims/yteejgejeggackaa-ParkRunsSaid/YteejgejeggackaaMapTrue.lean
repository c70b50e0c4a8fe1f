/-
  A map of bools to ints that holds true alone, as the laws of layer 11 write one.
-/
import Derived.Test.YteejgejeggackaaWords2
import Derived.MapKept
namespace Go.Proofs.Yteejgejeggackaa
open Go.RowKit
namespace MapTrue

def one : Array MapEntry := #[{ key := .bool true, val := .int .i64 1, born := 0 }]

theorem check_any (e : Bool) (b : Bool) (n : Nat) (w : World) : (Instr.checkKey e (n + 1) 4 (.bool b)).run Try.prog w = .ok () w := by
  unfold Instr.checkKey
  simp only [Sem.run_bind, run_underlying Try.underlying4, Result.andThen]
  rfl
theorem check (e : Bool) (b : Bool) (w : World) : (Instr.checkKey e 10000 4 (.bool b)).run Try.prog w = .ok () w := check_any e b 9999 w

theorem ins (w : World) : (Instr.mapUpdate 62 (.map (some w.heap.size)) (.bool true) (.int .i64 1)).run Try.prog (w.alloc (.map #[] 0)) = .ok () (w.alloc (.map one 1)) := by
  have hb := heap_alloc_new w (.map #[] 0)
  have hf : (Instr.findKey 4 (.bool true) []).run Try.prog (w.alloc (.map #[] 0)) = .ok none (w.alloc (.map #[] 0)) := MapKept.run_findKey Try.underlying4 rfl
  simp only [Instr.mapUpdate, Sem.run_bind, run_underlying Try.underlying62, MapKept.run_getObj_map hb, Result.andThen_ok, check, hf, MapKept.run_setObj_map _ hb]
  have hh : (w.alloc (.map #[] 0)).heap.setIfInBounds w.heap.size (.map (#[].push { key := .bool true, val := .int .i64 1, born := 0 }) (0 + 1)) = (w.alloc (.map one 1)).heap := by
    unfold World.alloc
    apply Array.ext
    · simp
    · intro k h1 h2
      rw [Array.getElem_setIfInBounds (by simpa using h1), Array.getElem_push, Array.getElem_push]
      by_cases hk : k = w.heap.size
      · subst hk
        simp [one]
      · have h3 : k < w.heap.size := by simp at h1; omega
        simp [h3, Ne.symm hk]
  rw [hh]
  rfl

theorem look_true (w : World) : (Instr.lookup 62 (.map (some w.heap.size)) (.bool true) false).run Try.prog (w.alloc (.map one 1)) = .ok (.int .i64 1) (w.alloc (.map one 1)) := by
  have hb := heap_alloc_new w (.map one 1)
  have hf : (Instr.findKey 4 (.bool true) one.toList).run Try.prog (w.alloc (.map one 1)) = .ok (some (0, .int .i64 1)) (w.alloc (.map one 1)) := MapKept.run_findKey Try.underlying4 rfl
  simp [Instr.lookup, run_underlying Try.underlying62, MapKept.run_getObj_map hb, check, hf, Result.andThen]

theorem look_false (w : World) : (Instr.lookup 62 (.map (some w.heap.size)) (.bool false) false).run Try.prog (w.alloc (.map one 1)) = .ok (.int .i64 0) (w.alloc (.map one 1)) := by
  have hb := heap_alloc_new w (.map one 1)
  have hf : (Instr.findKey 4 (.bool false) one.toList).run Try.prog (w.alloc (.map one 1)) = .ok none (w.alloc (.map one 1)) := MapKept.run_findKey Try.underlying4 rfl
  have hz : (zeroValue 3).run Try.prog (w.alloc (.map one 1)) = .ok (.int .i64 0) (w.alloc (.map one 1)) := by kernel_rfl
  simp [Instr.lookup, run_underlying Try.underlying62, MapKept.run_getObj_map hb, check, hf, hz, Result.andThen]
end MapTrue
end Go.Proofs.Yteejgejeggackaa
