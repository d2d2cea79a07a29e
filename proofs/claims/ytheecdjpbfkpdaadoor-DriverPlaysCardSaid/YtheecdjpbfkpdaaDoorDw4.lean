/-
  Walks: the driver's Next, phase by phase (printed by gen_Dw4.py).
-/
import Derived.Test.YtheecdjpbfkpdaaDoorDw3
namespace Go.Proofs.YtheecdjpbfkpdaaDoor
open Go.RowKit
set_option maxRecDepth 100000
set_option linter.unusedSimpArgs false
set_option linter.unusedVariables false

section
variable {w : World} {B g : Nat} {L : DL} {s : DS}
set_option maxHeartbeats 1000000 in
theorem next_lock (hD : Drv w B g L s) (hp : s.phase = 1) (hR : Rise s.splits) (h7 : s.splits.length ≤ 7) (h0 : 0 ≤ s.at_) (h1 : s.at_ < s.plan.length) (h2 : s.at_ ≤ 16) :
    Calls Tryd.prog 10 #[.pointer (some ⟨g, 0, none⟩)] w fun e w' => e = .returned (.tuple #[.int .i64 (shardOf s.splits s.op.key), .agg #[.int .i64 2, .int .i64 s.tx, .int .i64 s.attempt, .int .i64 0, .int .i64 (3 * s.at_), .string s.op.key, .string ⟨#[]⟩, .int .i64 (modeOf s.op), .bool false], .bool true]) ∧ Below w.heap.size w w' := by
  have hlt := hD.lt
  have c6 := hD.c6
  rw [hp] at c6
  clear hp
  have hD0 := Lib.hid hD
  have HR := Lib.hid hR
  clear hD hR
  go_enter Tryd.func10, Tryd.ntmps10
  go_wp2_with fail
  refine (access_lock (B := B) (L := L) (by exact hD0.out.alloc _) HR.out h7 h0 h1 h2).mono ?_
  rintro e w1 ⟨rfl, hb1⟩
  have b3 := (Blk.new w 38 #[.int .i64 0, .int .i64 0, .int .i64 0, .int .i64 0, .int .i64 0, .string ⟨#[]⟩, .string ⟨#[]⟩, .int .i64 0, .bool false]).below hb1 (by simp)
  have k_0 := b3.at_ 0 _ rfl
  have k_1 := b3.at_ 1 _ rfl
  have k_2 := b3.at_ 2 _ rfl
  have k_3 := b3.at_ 3 _ rfl
  have k_4 := b3.at_ 4 _ rfl
  have k_5 := b3.at_ 5 _ rfl
  have k_6 := b3.at_ 6 _ rfl
  have k_7 := b3.at_ 7 _ rfl
  have k_8 := b3.at_ 8 _ rfl
  have kf_0 := b3.frozen 0
  have kf_1 := b3.frozen 1
  have kf_2 := b3.frozen 2
  have kf_3 := b3.frozen 3
  have kf_4 := b3.frozen 4
  have kf_5 := b3.frozen 5
  have kf_6 := b3.frozen 6
  have kf_7 := b3.frozen 7
  have kf_8 := b3.frozen 8
  have z3 := b3.lt
  have HB := Lib.hid (((Below.refl w.heap.size w).alloc (Nat.le_refl _) _).trans (hb1.mono (by simp)))
  clear hb1 b3
  go_wp2_with fail
  refine bodyPost_ret (v := .tuple #[.int .i64 (shardOf s.splits s.op.key), .agg #[.int .i64 2, .int .i64 s.tx, .int .i64 s.attempt, .int .i64 0, .int .i64 (3 * s.at_), .string s.op.key, .string ⟨#[]⟩, .int .i64 (modeOf s.op), .bool false], .bool true]) (by simp [results, Tryd.results10, go_sem, *]) rfl ⟨rfl, ?_⟩
  iterate 9 refine below_here ?_
  exact HB.out
set_option maxHeartbeats 1000000 in
theorem next_get (hD : Drv w B g L s) (hp : s.phase = 3) (hR : Rise s.splits) (h7 : s.splits.length ≤ 7) (h0 : 0 ≤ s.at_) (h1 : s.at_ < s.plan.length) (h2 : s.at_ ≤ 16) :
    Calls Tryd.prog 10 #[.pointer (some ⟨g, 0, none⟩)] w fun e w' => e = .returned (.tuple #[.int .i64 (shardOf s.splits s.op.key), .agg #[.int .i64 3, .int .i64 s.tx, .int .i64 s.attempt, .int .i64 0, .int .i64 (3 * s.at_ + 1), .string s.op.key, .string ⟨#[]⟩, .int .i64 (0), .bool false], .bool true]) ∧ Below w.heap.size w w' := by
  have hlt := hD.lt
  have c6 := hD.c6
  rw [hp] at c6
  clear hp
  have hD0 := Lib.hid hD
  have HR := Lib.hid hR
  clear hD hR
  go_enter Tryd.func10, Tryd.ntmps10
  go_wp2_with fail
  refine (access_get (B := B) (L := L) (by exact hD0.out.alloc _) HR.out h7 h0 h1 h2).mono ?_
  rintro e w1 ⟨rfl, hb1⟩
  have b3 := (Blk.new w 38 #[.int .i64 0, .int .i64 0, .int .i64 0, .int .i64 0, .int .i64 0, .string ⟨#[]⟩, .string ⟨#[]⟩, .int .i64 0, .bool false]).below hb1 (by simp)
  have k_0 := b3.at_ 0 _ rfl
  have k_1 := b3.at_ 1 _ rfl
  have k_2 := b3.at_ 2 _ rfl
  have k_3 := b3.at_ 3 _ rfl
  have k_4 := b3.at_ 4 _ rfl
  have k_5 := b3.at_ 5 _ rfl
  have k_6 := b3.at_ 6 _ rfl
  have k_7 := b3.at_ 7 _ rfl
  have k_8 := b3.at_ 8 _ rfl
  have kf_0 := b3.frozen 0
  have kf_1 := b3.frozen 1
  have kf_2 := b3.frozen 2
  have kf_3 := b3.frozen 3
  have kf_4 := b3.frozen 4
  have kf_5 := b3.frozen 5
  have kf_6 := b3.frozen 6
  have kf_7 := b3.frozen 7
  have kf_8 := b3.frozen 8
  have z3 := b3.lt
  have HB := Lib.hid (((Below.refl w.heap.size w).alloc (Nat.le_refl _) _).trans (hb1.mono (by simp)))
  clear hb1 b3
  go_wp2_with fail
  refine bodyPost_ret (v := .tuple #[.int .i64 (shardOf s.splits s.op.key), .agg #[.int .i64 3, .int .i64 s.tx, .int .i64 s.attempt, .int .i64 0, .int .i64 (3 * s.at_ + 1), .string s.op.key, .string ⟨#[]⟩, .int .i64 (0), .bool false], .bool true]) (by simp [results, Tryd.results10, go_sem, *]) rfl ⟨rfl, ?_⟩
  iterate 9 refine below_here ?_
  exact HB.out
set_option maxHeartbeats 1000000 in
theorem next_put (hD : Drv w B g L s) (hp : s.phase = 4) (hR : Rise s.splits) (h7 : s.splits.length ≤ 7) (h0 : 0 ≤ s.at_) (h1 : s.at_ < s.plan.length) (h2 : s.at_ ≤ 16) :
    Calls Tryd.prog 10 #[.pointer (some ⟨g, 0, none⟩)] w fun e w' => e = .returned (.tuple #[.int .i64 (shardOf s.splits s.op.key), .agg #[.int .i64 4, .int .i64 s.tx, .int .i64 s.attempt, .int .i64 0, .int .i64 (3 * s.at_ + 2), .string s.op.key, .string s.write.v, .int .i64 (0), .bool s.write.h], .bool true]) ∧ Below w.heap.size w w' := by
  have hlt := hD.lt
  have c6 := hD.c6
  rw [hp] at c6
  clear hp
  have hD0 := Lib.hid hD
  have HR := Lib.hid hR
  clear hD hR
  go_enter Tryd.func10, Tryd.ntmps10
  go_wp2_with fail
  refine (access_put (B := B) (L := L) (by exact hD0.out.alloc _) HR.out h7 h0 h1 h2).mono ?_
  rintro e w1 ⟨rfl, hb1⟩
  have b3 := (Blk.new w 38 #[.int .i64 0, .int .i64 0, .int .i64 0, .int .i64 0, .int .i64 0, .string ⟨#[]⟩, .string ⟨#[]⟩, .int .i64 0, .bool false]).below hb1 (by simp)
  have k_0 := b3.at_ 0 _ rfl
  have k_1 := b3.at_ 1 _ rfl
  have k_2 := b3.at_ 2 _ rfl
  have k_3 := b3.at_ 3 _ rfl
  have k_4 := b3.at_ 4 _ rfl
  have k_5 := b3.at_ 5 _ rfl
  have k_6 := b3.at_ 6 _ rfl
  have k_7 := b3.at_ 7 _ rfl
  have k_8 := b3.at_ 8 _ rfl
  have kf_0 := b3.frozen 0
  have kf_1 := b3.frozen 1
  have kf_2 := b3.frozen 2
  have kf_3 := b3.frozen 3
  have kf_4 := b3.frozen 4
  have kf_5 := b3.frozen 5
  have kf_6 := b3.frozen 6
  have kf_7 := b3.frozen 7
  have kf_8 := b3.frozen 8
  have z3 := b3.lt
  have HB := Lib.hid (((Below.refl w.heap.size w).alloc (Nat.le_refl _) _).trans (hb1.mono (by simp)))
  clear hb1 b3
  go_wp2_with fail
  refine bodyPost_ret (v := .tuple #[.int .i64 (shardOf s.splits s.op.key), .agg #[.int .i64 4, .int .i64 s.tx, .int .i64 s.attempt, .int .i64 0, .int .i64 (3 * s.at_ + 2), .string s.op.key, .string s.write.v, .int .i64 (0), .bool s.write.h], .bool true]) (by simp [results, Tryd.results10, go_sem, *]) rfl ⟨rfl, ?_⟩
  iterate 9 refine below_here ?_
  exact HB.out
set_option maxHeartbeats 1000000 in
theorem next_beat (hD : Drv w B g L s) (hp : s.phase = 2) (h7 : s.splits.length ≤ 7) (ht : 0 ≤ s.tx) :
    Calls Tryd.prog 10 #[.pointer (some ⟨g, 0, none⟩)] w fun e w' => e = .returned (.tuple #[.int .i64 (s.tx % (s.splits.length + 1)), .agg #[.int .i64 8, .int .i64 s.tx, .int .i64 s.attempt, .int .i64 0, .int .i64 (0), .string ⟨#[]⟩, .string ⟨#[]⟩, .int .i64 (0), .bool false], .bool true]) ∧ Below w.heap.size w w' := by
  have hlt := hD.lt
  have c6 := hD.c6
  rw [hp] at c6
  clear hp
  have hD0 := Lib.hid hD
  clear hD
  go_enter Tryd.func10, Tryd.ntmps10
  go_wp2_with fail
  refine (home_any (B := B) (L := L) (s := s) (by exact hD0.out.alloc _) h7 ht).mono ?_
  rintro e w1 ⟨rfl, n1, rfl⟩
  go_wp2_with fail
  refine (command_any (B := B) (L := L) (s := s) (by exact (hD0.out.alloc _).drewN _) 8).mono ?_
  rintro e w2 ⟨rfl, hb1⟩
  have b3 := ((Blk.new w 38 #[.int .i64 0, .int .i64 0, .int .i64 0, .int .i64 0, .int .i64 0, .string ⟨#[]⟩, .string ⟨#[]⟩, .int .i64 0, .bool false]).drewN n1).below hb1 (by simp)
  have k_0 := b3.at_ 0 _ rfl
  have k_1 := b3.at_ 1 _ rfl
  have k_2 := b3.at_ 2 _ rfl
  have k_3 := b3.at_ 3 _ rfl
  have k_4 := b3.at_ 4 _ rfl
  have k_5 := b3.at_ 5 _ rfl
  have k_6 := b3.at_ 6 _ rfl
  have k_7 := b3.at_ 7 _ rfl
  have k_8 := b3.at_ 8 _ rfl
  have kf_0 := b3.frozen 0
  have kf_1 := b3.frozen 1
  have kf_2 := b3.frozen 2
  have kf_3 := b3.frozen 3
  have kf_4 := b3.frozen 4
  have kf_5 := b3.frozen 5
  have kf_6 := b3.frozen 6
  have kf_7 := b3.frozen 7
  have kf_8 := b3.frozen 8
  have z3 := b3.lt
  have HB := Lib.hid (((Below.refl w.heap.size w).alloc (Nat.le_refl _) (.cells #[.int .i64 0, .int .i64 0, .int .i64 0, .int .i64 0, .int .i64 0, .string ⟨#[]⟩, .string ⟨#[]⟩, .int .i64 0, .bool false] 38)).trans ((below_drewN (Below.refl _ _) n1).trans (hb1.mono (by simp))))
  clear hb1 b3
  go_wp2_with fail
  refine bodyPost_ret (v := .tuple #[.int .i64 (s.tx % (s.splits.length + 1)), .agg #[.int .i64 8, .int .i64 s.tx, .int .i64 s.attempt, .int .i64 0, .int .i64 (0), .string ⟨#[]⟩, .string ⟨#[]⟩, .int .i64 (0), .bool false], .bool true]) (by simp [results, Tryd.results10, go_sem, *]) rfl ⟨rfl, ?_⟩
  iterate 9 refine below_here ?_
  exact HB.out
set_option maxHeartbeats 1000000 in
theorem next_decide (hD : Drv w B g L s) (hp : s.phase = 5) (h7 : s.splits.length ≤ 7) (ht : 0 ≤ s.tx) :
    Calls Tryd.prog 10 #[.pointer (some ⟨g, 0, none⟩)] w fun e w' => e = .returned (.tuple #[.int .i64 (s.tx % (s.splits.length + 1)), .agg #[.int .i64 5, .int .i64 s.tx, .int .i64 s.attempt, .int .i64 0, .int .i64 (0), .string ⟨#[]⟩, .string ⟨#[]⟩, .int .i64 (0), .bool false], .bool true]) ∧ Below w.heap.size w w' := by
  have hlt := hD.lt
  have c6 := hD.c6
  rw [hp] at c6
  clear hp
  have hD0 := Lib.hid hD
  clear hD
  go_enter Tryd.func10, Tryd.ntmps10
  go_wp2_with fail
  refine (home_any (B := B) (L := L) (s := s) (by exact hD0.out.alloc _) h7 ht).mono ?_
  rintro e w1 ⟨rfl, n1, rfl⟩
  go_wp2_with fail
  refine (command_any (B := B) (L := L) (s := s) (by exact (hD0.out.alloc _).drewN _) 5).mono ?_
  rintro e w2 ⟨rfl, hb1⟩
  have b3 := ((Blk.new w 38 #[.int .i64 0, .int .i64 0, .int .i64 0, .int .i64 0, .int .i64 0, .string ⟨#[]⟩, .string ⟨#[]⟩, .int .i64 0, .bool false]).drewN n1).below hb1 (by simp)
  have k_0 := b3.at_ 0 _ rfl
  have k_1 := b3.at_ 1 _ rfl
  have k_2 := b3.at_ 2 _ rfl
  have k_3 := b3.at_ 3 _ rfl
  have k_4 := b3.at_ 4 _ rfl
  have k_5 := b3.at_ 5 _ rfl
  have k_6 := b3.at_ 6 _ rfl
  have k_7 := b3.at_ 7 _ rfl
  have k_8 := b3.at_ 8 _ rfl
  have kf_0 := b3.frozen 0
  have kf_1 := b3.frozen 1
  have kf_2 := b3.frozen 2
  have kf_3 := b3.frozen 3
  have kf_4 := b3.frozen 4
  have kf_5 := b3.frozen 5
  have kf_6 := b3.frozen 6
  have kf_7 := b3.frozen 7
  have kf_8 := b3.frozen 8
  have z3 := b3.lt
  have HB := Lib.hid (((Below.refl w.heap.size w).alloc (Nat.le_refl _) (.cells #[.int .i64 0, .int .i64 0, .int .i64 0, .int .i64 0, .int .i64 0, .string ⟨#[]⟩, .string ⟨#[]⟩, .int .i64 0, .bool false] 38)).trans ((below_drewN (Below.refl _ _) n1).trans (hb1.mono (by simp))))
  clear hb1 b3
  go_wp2_with fail
  refine bodyPost_ret (v := .tuple #[.int .i64 (s.tx % (s.splits.length + 1)), .agg #[.int .i64 5, .int .i64 s.tx, .int .i64 s.attempt, .int .i64 0, .int .i64 (0), .string ⟨#[]⟩, .string ⟨#[]⟩, .int .i64 (0), .bool false], .bool true]) (by simp [results, Tryd.results10, go_sem, *]) rfl ⟨rfl, ?_⟩
  iterate 9 refine below_here ?_
  exact HB.out
set_option maxHeartbeats 1000000 in
theorem next_kill (hD : Drv w B g L s) (hp : s.phase = 6) (h7 : s.splits.length ≤ 7) (ht : 0 ≤ s.tx) :
    Calls Tryd.prog 10 #[.pointer (some ⟨g, 0, none⟩)] w fun e w' => e = .returned (.tuple #[.int .i64 (s.tx % (s.splits.length + 1)), .agg #[.int .i64 6, .int .i64 s.tx, .int .i64 s.attempt, .int .i64 0, .int .i64 (0), .string ⟨#[]⟩, .string ⟨#[]⟩, .int .i64 (0), .bool false], .bool true]) ∧ Below w.heap.size w w' := by
  have hlt := hD.lt
  have c6 := hD.c6
  rw [hp] at c6
  clear hp
  have hD0 := Lib.hid hD
  clear hD
  go_enter Tryd.func10, Tryd.ntmps10
  go_wp2_with fail
  refine (home_any (B := B) (L := L) (s := s) (by exact hD0.out.alloc _) h7 ht).mono ?_
  rintro e w1 ⟨rfl, n1, rfl⟩
  go_wp2_with fail
  refine (command_any (B := B) (L := L) (s := s) (by exact (hD0.out.alloc _).drewN _) 6).mono ?_
  rintro e w2 ⟨rfl, hb1⟩
  have b3 := ((Blk.new w 38 #[.int .i64 0, .int .i64 0, .int .i64 0, .int .i64 0, .int .i64 0, .string ⟨#[]⟩, .string ⟨#[]⟩, .int .i64 0, .bool false]).drewN n1).below hb1 (by simp)
  have k_0 := b3.at_ 0 _ rfl
  have k_1 := b3.at_ 1 _ rfl
  have k_2 := b3.at_ 2 _ rfl
  have k_3 := b3.at_ 3 _ rfl
  have k_4 := b3.at_ 4 _ rfl
  have k_5 := b3.at_ 5 _ rfl
  have k_6 := b3.at_ 6 _ rfl
  have k_7 := b3.at_ 7 _ rfl
  have k_8 := b3.at_ 8 _ rfl
  have kf_0 := b3.frozen 0
  have kf_1 := b3.frozen 1
  have kf_2 := b3.frozen 2
  have kf_3 := b3.frozen 3
  have kf_4 := b3.frozen 4
  have kf_5 := b3.frozen 5
  have kf_6 := b3.frozen 6
  have kf_7 := b3.frozen 7
  have kf_8 := b3.frozen 8
  have z3 := b3.lt
  have HB := Lib.hid (((Below.refl w.heap.size w).alloc (Nat.le_refl _) (.cells #[.int .i64 0, .int .i64 0, .int .i64 0, .int .i64 0, .int .i64 0, .string ⟨#[]⟩, .string ⟨#[]⟩, .int .i64 0, .bool false] 38)).trans ((below_drewN (Below.refl _ _) n1).trans (hb1.mono (by simp))))
  clear hb1 b3
  go_wp2_with fail
  refine bodyPost_ret (v := .tuple #[.int .i64 (s.tx % (s.splits.length + 1)), .agg #[.int .i64 6, .int .i64 s.tx, .int .i64 s.attempt, .int .i64 0, .int .i64 (0), .string ⟨#[]⟩, .string ⟨#[]⟩, .int .i64 (0), .bool false], .bool true]) (by simp [results, Tryd.results10, go_sem, *]) rfl ⟨rfl, ?_⟩
  iterate 9 refine below_here ?_
  exact HB.out
set_option maxHeartbeats 1000000 in
theorem next_open (hD : Drv w B g L s) (hp : s.phase = 0) (h7 : s.splits.length ≤ 7) (ht : 0 ≤ s.tx) :
    Calls Tryd.prog 10 #[.pointer (some ⟨g, 0, none⟩)] w fun e w' => e = .returned (.tuple #[.int .i64 (s.tx % (s.splits.length + 1)), .agg #[.int .i64 1, .int .i64 s.tx, .int .i64 s.attempt, .int .i64 s.stamp, .int .i64 (0), .string ⟨#[]⟩, .string ⟨#[]⟩, .int .i64 (0), .bool false], .bool true]) ∧ Below w.heap.size w w' := by
  have hlt := hD.lt
  have c6 := hD.c6
  rw [hp] at c6
  clear hp
  have hD0 := Lib.hid hD
  clear hD
  go_enter Tryd.func10, Tryd.ntmps10
  go_wp2_with fail
  refine (command_any (B := B) (L := L) (s := s) (by exact hD0.out.alloc _) 1).mono ?_
  rintro e w1 ⟨rfl, hb1⟩
  have hD1 := (hD0.out.alloc (.cells #[.int .i64 0, .int .i64 0, .int .i64 0, .int .i64 0, .int .i64 0, .string ⟨#[]⟩, .string ⟨#[]⟩, .int .i64 0, .bool false] 38)).below hb1
  have d1 := hD1.c1
  have hlt1 := hD1.lt
  have b3 := (Blk.new w 38 #[.int .i64 0, .int .i64 0, .int .i64 0, .int .i64 0, .int .i64 0, .string ⟨#[]⟩, .string ⟨#[]⟩, .int .i64 0, .bool false]).below hb1 (by simp)
  have z3 := b3.lt
  have HB := Lib.hid (((Below.refl w.heap.size w).alloc (Nat.le_refl _) _).trans (hb1.mono (by simp)))
  have HD1 := Lib.hid hD1
  have B3 := Lib.hid b3
  clear hb1 hD1 b3
  go_wp2_with fail
  generalize hW3 : w1.alloc (.cells #[.int .i64 1, .int .i64 s.tx, .int .i64 s.attempt, .int .i64 s.stamp, .int .i64 (0), .string ⟨#[]⟩, .string ⟨#[]⟩, .int .i64 (0), .bool false] 38) = W3
  have hD3 : Drv W3 B g L s := by rw [← hW3]; exact HD1.out.alloc _
  have x3 : Blk W3 w.heap.size 38 #[.int .i64 0, .int .i64 0, .int .i64 0, .int .i64 0, .int .i64 0, .string ⟨#[]⟩, .string ⟨#[]⟩, .int .i64 0, .bool false] := by rw [← hW3]; exact B3.out.alloc _
  have x5 : Blk W3 w1.heap.size 38 #[.int .i64 1, .int .i64 s.tx, .int .i64 s.attempt, .int .i64 s.stamp, .int .i64 (0), .string ⟨#[]⟩, .string ⟨#[]⟩, .int .i64 (0), .bool false] := by rw [← hW3]; exact Blk.new w1 _ _
  have HB3 : Hid (Below w.heap.size w W3) := by rw [← hW3]; exact HB.out.alloc HB.out.size _
  clear hW3 d1
  have k_0 := x3.at_ 0 _ rfl
  have k_1 := x3.at_ 1 _ rfl
  have k_2 := x3.at_ 2 _ rfl
  have k_3 := x3.at_ 3 _ rfl
  have k_4 := x3.at_ 4 _ rfl
  have k_5 := x3.at_ 5 _ rfl
  have k_6 := x3.at_ 6 _ rfl
  have k_7 := x3.at_ 7 _ rfl
  have k_8 := x3.at_ 8 _ rfl
  have kf_0 := x3.frozen 0
  have kf_1 := x3.frozen 1
  have kf_2 := x3.frozen 2
  have kf_3 := x3.frozen 3
  have kf_4 := x3.frozen 4
  have kf_5 := x3.frozen 5
  have kf_6 := x3.frozen 6
  have kf_7 := x3.frozen 7
  have kf_8 := x3.frozen 8
  have m_0 := x5.at_ 0 _ rfl
  have m_1 := x5.at_ 1 _ rfl
  have m_2 := x5.at_ 2 _ rfl
  have m_3 := x5.at_ 3 _ rfl
  have m_4 := x5.at_ 4 _ rfl
  have m_5 := x5.at_ 5 _ rfl
  have m_6 := x5.at_ 6 _ rfl
  have m_7 := x5.at_ 7 _ rfl
  have m_8 := x5.at_ 8 _ rfl
  have z3 := x3.lt
  have z5 := x5.lt
  have hltx := hD3.lt
  have HD3 := Lib.hid hD3
  have X3 := Lib.hid x3
  have X5 := Lib.hid x5
  clear hD3 x3 x5
  have n3 : ¬ w1.heap.size = w.heap.size := by omega
  have n4 : ¬ w.heap.size = w1.heap.size := by omega
  go_region_held3 (fun W => W.cell? ⟨w1.heap.size, 0, none⟩ = some (.int .i64 1) ∧ W.cell? ⟨w1.heap.size, 1, none⟩ = some (.int .i64 s.tx) ∧ W.cell? ⟨w1.heap.size, 2, none⟩ = some (.int .i64 s.attempt) ∧ W.cell? ⟨w1.heap.size, 3, none⟩ = some (.int .i64 s.stamp) ∧ W.cell? ⟨w1.heap.size, 4, none⟩ = some (.int .i64 (0)) ∧ W.cell? ⟨w1.heap.size, 5, none⟩ = some (.string ⟨#[]⟩) ∧ W.cell? ⟨w1.heap.size, 6, none⟩ = some (.string ⟨#[]⟩) ∧ W.cell? ⟨w1.heap.size, 7, none⟩ = some (.int .i64 (0)) ∧ W.cell? ⟨w1.heap.size, 8, none⟩ = some (.bool false)) (go_keep)
    (first | (go_at_call 29; refine (home_any (B := B) (L := L) (s := s) (by exact HD3.out.drew) h7 ht).mono ?_; rintro e w4 ⟨rfl, n4, rfl⟩))
  go_wp2_with fail
  refine bodyPost_ret (v := .tuple #[.int .i64 (s.tx % (s.splits.length + 1)), .agg #[.int .i64 1, .int .i64 s.tx, .int .i64 s.attempt, .int .i64 s.stamp, .int .i64 (0), .string ⟨#[]⟩, .string ⟨#[]⟩, .int .i64 (0), .bool false], .bool true]) (by simp [results, Tryd.results10, go_sem, *]) rfl ⟨rfl, ?_⟩
  iterate 9 refine below_here ?_
  exact below_drewN HB3.out _
set_option maxHeartbeats 1000000 in
theorem next_finish (hD : Drv w B g L s) (hp : s.phase = 7) (l0 : Int) (lr : List Int) (hl : s.left = l0 :: lr) :
    Calls Tryd.prog 10 #[.pointer (some ⟨g, 0, none⟩)] w fun e w' => e = .returned (.tuple #[.int .i64 l0, .agg #[.int .i64 7, .int .i64 s.tx, .int .i64 s.attempt, .int .i64 0, .int .i64 (l0), .string ⟨#[]⟩, .string ⟨#[]⟩, .int .i64 (0), .bool (s.outcome == 2)], .bool true]) ∧ Below w.heap.size w w' := by
  have hlt := hD.lt
  have c6 := hD.c6
  rw [hp] at c6
  obtain ⟨gt, k, hA, q0⟩ := left_cell hD hp hl
  have hqw : gt < w.heap.size := World.block_lt_of_cell? _ _ q0
  have Q0 := Lib.hid q0
  have HA := Lib.hid hA
  have HL := Lib.hid hl
  have hD0 := Lib.hid hD
  clear q0 hA
  clear hD hp hl
  go_enter Tryd.func10, Tryd.ntmps10
  go_wp2_with fail
  refine (command_any (B := B) (L := L) (s := s) (by exact hD0.out.alloc _) 7).mono ?_
  rintro e w1 ⟨rfl, hb1⟩
  have hD1 := (hD0.out.alloc (.cells #[.int .i64 0, .int .i64 0, .int .i64 0, .int .i64 0, .int .i64 0, .string ⟨#[]⟩, .string ⟨#[]⟩, .int .i64 0, .bool false] 38)).below hb1
  have q0 : w1.cell? ⟨gt, k, none⟩ = some (.int .i64 l0) := (hb1.cell (p := ⟨gt, k, none⟩) (by simp <;> omega)).trans ((World.cell?_alloc_lt w _ _ (by exact hqw)).trans Q0.out)
  have d14 := hD1.c14
  rw [HA.out, HL.out] at d14
  have d15 := hD1.c15
  have hlt1 := hD1.lt
  have hqt := World.block_lt_of_cell? _ _ q0
  have b3 := (Blk.new w 38 #[.int .i64 0, .int .i64 0, .int .i64 0, .int .i64 0, .int .i64 0, .string ⟨#[]⟩, .string ⟨#[]⟩, .int .i64 0, .bool false]).below hb1 (by simp)
  have z3 := b3.lt
  have HB := Lib.hid (((Below.refl w.heap.size w).alloc (Nat.le_refl _) _).trans (hb1.mono (by simp)))
  have HD1 := Lib.hid hD1
  have B3 := Lib.hid b3
  clear hb1 hD1 b3
  simp only [List.length_cons] at d14
  go_wp2_with fail
  go_region
  go_wp2_with fail
  generalize hW3 : (w1.alloc (.cells #[.int .i64 7, .int .i64 s.tx, .int .i64 s.attempt, .int .i64 0, .int .i64 (l0), .string ⟨#[]⟩, .string ⟨#[]⟩, .int .i64 (0), .bool (s.outcome == 2)] 38)).drew = W3
  have r14 : W3.cell? ⟨g, 14, none⟩ = some (.slice (some ⟨gt, k, none⟩) (lr.length + 1) L.lc) := by rw [← hW3]; exact (World.cell?_alloc_lt w1 _ _ (by exact hlt1)).trans d14
  have rq : W3.cell? ⟨gt, k, none⟩ = some (.int .i64 l0) := by rw [← hW3]; exact (World.cell?_alloc_lt w1 _ _ (by exact hqt)).trans q0
  have x3 : Blk W3 w.heap.size 38 #[.int .i64 0, .int .i64 0, .int .i64 0, .int .i64 0, .int .i64 0, .string ⟨#[]⟩, .string ⟨#[]⟩, .int .i64 0, .bool false] := by rw [← hW3]; exact B3.out.alloc _
  have x5 : Blk W3 w1.heap.size 38 #[.int .i64 7, .int .i64 s.tx, .int .i64 s.attempt, .int .i64 0, .int .i64 (l0), .string ⟨#[]⟩, .string ⟨#[]⟩, .int .i64 (0), .bool (s.outcome == 2)] := by rw [← hW3]; exact Blk.new w1 _ _
  have HB3 : Hid (Below w.heap.size w W3) := by rw [← hW3]; exact (HB.out.alloc HB.out.size _).drew
  have n3 : ¬ w1.heap.size = w.heap.size := by omega
  have n4 : ¬ w.heap.size = w1.heap.size := by omega
  have n5 : ¬ g = w.heap.size := by omega
  have n6 : ¬ gt = w.heap.size := by omega
  have n7 : ¬ w.heap.size = g := by omega
  have n8 : ¬ w.heap.size = gt := by omega
  clear hW3 d14 d15 q0
  have k_0 := x3.at_ 0 _ rfl
  have k_1 := x3.at_ 1 _ rfl
  have k_2 := x3.at_ 2 _ rfl
  have k_3 := x3.at_ 3 _ rfl
  have k_4 := x3.at_ 4 _ rfl
  have k_5 := x3.at_ 5 _ rfl
  have k_6 := x3.at_ 6 _ rfl
  have k_7 := x3.at_ 7 _ rfl
  have k_8 := x3.at_ 8 _ rfl
  have kf_0 := x3.frozen 0
  have kf_1 := x3.frozen 1
  have kf_2 := x3.frozen 2
  have kf_3 := x3.frozen 3
  have kf_4 := x3.frozen 4
  have kf_5 := x3.frozen 5
  have kf_6 := x3.frozen 6
  have kf_7 := x3.frozen 7
  have kf_8 := x3.frozen 8
  have m_0 := x5.at_ 0 _ rfl
  have m_1 := x5.at_ 1 _ rfl
  have m_2 := x5.at_ 2 _ rfl
  have m_3 := x5.at_ 3 _ rfl
  have m_4 := x5.at_ 4 _ rfl
  have m_5 := x5.at_ 5 _ rfl
  have m_6 := x5.at_ 6 _ rfl
  have m_7 := x5.at_ 7 _ rfl
  have m_8 := x5.at_ 8 _ rfl
  have z3 := x3.lt
  have z5 := x5.lt
  clear x3 x5
  go_region_held3 (fun W => W.cell? ⟨g, 14, none⟩ = some (.slice (some ⟨gt, k, none⟩) (lr.length + 1) L.lc) ∧ W.cell? ⟨gt, k, none⟩ = some (.int .i64 l0) ∧ W.cell? ⟨w1.heap.size, 0, none⟩ = some (.int .i64 7) ∧ W.cell? ⟨w1.heap.size, 1, none⟩ = some (.int .i64 s.tx) ∧ W.cell? ⟨w1.heap.size, 2, none⟩ = some (.int .i64 s.attempt) ∧ W.cell? ⟨w1.heap.size, 3, none⟩ = some (.int .i64 0) ∧ W.cell? ⟨w1.heap.size, 4, none⟩ = some (.int .i64 (l0)) ∧ W.cell? ⟨w1.heap.size, 5, none⟩ = some (.string ⟨#[]⟩) ∧ W.cell? ⟨w1.heap.size, 6, none⟩ = some (.string ⟨#[]⟩) ∧ W.cell? ⟨w1.heap.size, 7, none⟩ = some (.int .i64 (0)) ∧ W.cell? ⟨w1.heap.size, 8, none⟩ = some (.bool (s.outcome == 2))) (go_keep) (fail)
  go_wp2_with fail
  refine bodyPost_ret (v := .tuple #[.int .i64 l0, .agg #[.int .i64 7, .int .i64 s.tx, .int .i64 s.attempt, .int .i64 0, .int .i64 (l0), .string ⟨#[]⟩, .string ⟨#[]⟩, .int .i64 (0), .bool (s.outcome == 2)], .bool true]) (by simp [results, Tryd.results10, go_sem, *]) rfl ⟨rfl, ?_⟩
  refine Below.drew ?_
  iterate 9 refine below_here ?_
  exact HB3.out
set_option maxHeartbeats 1000000 in
theorem next_over (hD : Drv w B g L s) (hp : s.phase = 8)  :
    Calls Tryd.prog 10 #[.pointer (some ⟨g, 0, none⟩)] w fun e w' => e = .returned (.tuple #[.int .i64 0, .agg #[.int .i64 0, .int .i64 0, .int .i64 0, .int .i64 0, .int .i64 0, .string ⟨#[]⟩, .string ⟨#[]⟩, .int .i64 0, .bool false], .bool false]) ∧ Below w.heap.size w w' := by
  have hlt := hD.lt
  have c6 := hD.c6
  rw [hp] at c6
  clear hp
  clear hD
  go_enter Tryd.func10, Tryd.ntmps10
  go_wp2_with fail
  refine bodyPost_ret (v := .tuple #[.int .i64 0, .agg #[.int .i64 0, .int .i64 0, .int .i64 0, .int .i64 0, .int .i64 0, .string ⟨#[]⟩, .string ⟨#[]⟩, .int .i64 0, .bool false], .bool false]) (by simp [results, Tryd.results10, go_sem, *]) rfl ⟨rfl, ?_⟩
  exact (Below.refl _ _).alloc (Nat.le_refl _) _
end
end Go.Proofs.YtheecdjpbfkpdaaDoor
