/-
  Walks: the plan's right and Right.
-/
import Derived.Test.YtheecdjpbfkpdaaDoorPl
namespace Go.Proofs.YtheecdjpbfkpdaaDoor
open Go.RowKit
set_option maxRecDepth 100000
set_option linter.unusedSimpArgs false
set_option linter.unusedVariables false

def keyOk (k : ByteArray) : Bool := !(k.toList == []) && decide ((k.size : Int) ≤ 16)
/-- May an operation be? -/
def opOk (o : OpS) : Bool :=
  if o.kind = 6 then true
  else if o.kind = 2 then (if (32 : Int) < (o.value.size : Int) then false else keyOk o.key)
  else if o.kind = 5 then (if o.n < -1125899906842624 ∨ 1125899906842624 < o.n then false else keyOk o.key)
  else if o.kind = 1 ∨ o.kind = 3 ∨ o.kind = 4 then keyOk o.key
  else false

set_option maxHeartbeats 1000000 in
theorem opRight_any (k n : Int) (key val : ByteArray) (w : World) :
    Calls Tryd.prog 41 #[.agg #[.int .i64 k, .string key, .string val, .int .i64 n]] w fun e w' => e = .returned (.bool (opOk ⟨k, key, val, n⟩)) ∧ Below w.heap.size w w' := by
  go_enter Tryd.func41, Tryd.ntmps41
  go_wp2
  all_goals
    go_ret
    refine ⟨?_, (Below.refl _ _).alloc (Nat.le_refl _) _⟩
    first | (simp_all [opOk, keyOk]; done) | (simp_all [opOk, keyOk]; omega)
end Go.Proofs.YtheecdjpbfkpdaaDoor
