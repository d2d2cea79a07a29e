/-
  Walks: the driver's command, home; the map's Shards.
-/
import Derived.Test.YtheecdjpbfkpdaaDoorProg
import Derived.Test.YtheecdjpbfkpdaaDoorDrv
import Derived.KernelRfl
import Derived.WalkSpells
import Derived.WalkLawsBesides
import Derived.BigRegion
import Derived.BigQuiet
import Derived.Deep.QuietTactic
import Derived.StillTailTactics
namespace Go.Proofs.YtheecdjpbfkpdaaDoor
open Go.RowKit
set_option maxRecDepth 100000
set_option linter.unusedSimpArgs false
set_option linter.unusedVariables false

section
variable {w : World} {B g : Nat} {L : DL} {s : DS}

set_option maxHeartbeats 400000 in
theorem command_any (hD : Drv w B g L s) (kind : Int) :
    Calls Tryd.prog 28 #[.pointer (some ⟨g, 0, none⟩), .int .i64 kind] w fun e w' => e = .returned (.agg #[.int .i64 kind, .int .i64 s.tx, .int .i64 s.attempt, .int .i64 0, .int .i64 0, .string ⟨#[]⟩, .string ⟨#[]⟩, .int .i64 0, .bool false]) ∧ Below w.heap.size w w' := by
  have hlt := hD.lt
  have c0 := hD.c0
  have c5 := hD.c5
  clear hD
  go_enter Tryd.func28, Tryd.ntmps28
  go_wp2
  go_region
  all_goals
    go_wp2
    refine bodyPost_ret (v := .agg #[.int .i64 kind, .int .i64 s.tx, .int .i64 s.attempt, .int .i64 0, .int .i64 0, .string ⟨#[]⟩, .string ⟨#[]⟩, .int .i64 0, .bool false]) (by simp [results, Tryd.results28, go_sem]) rfl ⟨rfl, ?_⟩
    exact ((Below.refl _ _).alloc (Nat.le_refl _) _).drew

set_option maxHeartbeats 400000 in
theorem shards_any (hD : Drv w B g L s) (hs : s.splits.length ≤ 7) :
    Calls Tryd.prog 42 #[.pointer (some ⟨L.gm, 0, none⟩)] w fun e w' => e = .returned (.int .i64 (s.splits.length + 1)) ∧ ∃ n, w' = w.drewN n := by
  have c0 := hD.m0
  clear hD
  go_enter Tryd.func42, Tryd.ntmps42
  go_wp2
  go_ret
  exact ⟨rfl, 0, rfl⟩

set_option maxHeartbeats 400000 in
theorem home_any (hD : Drv w B g L s) (hs : s.splits.length ≤ 7) (ht : 0 ≤ s.tx) :
    Calls Tryd.prog 29 #[.pointer (some ⟨g, 0, none⟩)] w fun e w' => e = .returned (.int .i64 (s.tx % (s.splits.length + 1))) ∧ ∃ n, w' = w.drewN n := by
  have c0 := hD.c0
  have c3 := hD.c3
  have hC := fun n => shards_any (hD.drewN n) hs
  have HC := Lib.hid hC
  clear hC hD
  go_enter Tryd.func29, Tryd.ntmps29
  go_wp2
  go_quiet ((go_at_call 42; exact Calls.quiet_of (HC.out _)))
  go_wp2
  go_ret
  exact ⟨rfl, _, rfl⟩
end
end Go.Proofs.YtheecdjpbfkpdaaDoor
