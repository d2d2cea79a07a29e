/-
  Walks: the driver's access, at a lock, a reading, a writing (printed by gen_Dw3.py).
-/
import Derived.Test.YtheecdjpbfkpdaaDoorDw2
import Derived.Test.YtheecdjpbfkpdaaDoorPl
import Derived.Deep.RegionWith
import Derived.Deep.RegionHeld3
namespace Go.Proofs.YtheecdjpbfkpdaaDoor
open Go.RowKit
set_option maxRecDepth 100000
set_option linter.unusedSimpArgs false
set_option linter.unusedVariables false

section
variable {w : World} {B g : Nat} {L : DL} {s : DS}
set_option maxHeartbeats 1000000 in
theorem access_lock (hD : Drv w B g L s) (hR : Rise s.splits) (h7 : s.splits.length ≤ 7) (h0 : 0 ≤ s.at_) (h1 : s.at_ < s.plan.length) (h2 : s.at_ ≤ 16) :
    Calls Tryd.prog 30 #[.pointer (some ⟨g, 0, none⟩), .int .i64 2, .int .i64 0] w fun e w' => e = .returned (.tuple #[.int .i64 (shardOf s.splits s.op.key), .agg #[.int .i64 2, .int .i64 s.tx, .int .i64 s.attempt, .int .i64 0, .int .i64 (3 * s.at_), .string s.op.key, .string ⟨#[]⟩, .int .i64 (modeOf s.op), .bool false], .bool true]) ∧ Below w.heap.size w w' := by
  have hlt := hD.lt
  have c3 := hD.c3
  have c4 := hD.c4
  have c7 := hD.c7
  obtain ⟨ad, hA, q0, q1, q2, q3⟩ := (Row.of_own hD.pln).op _ _ (DS.op_get h0 h1)
  rw [hA] at c4
  have hbl := World.block_lt_of_cell? _ _ q0
  have hD' := Lib.hid hD
  have HR := Lib.hid hR
  clear hA hD hR
  go_enter Tryd.func30, Tryd.ntmps30
  go_wp2_with fail
  go_region
  go_wp2_with fail
  refine (command_any (B := B) (L := L) (s := s) (by exact (((hD'.out).alloc _).alloc _).drew) 2).mono ?_
  rintro e w1 ⟨rfl, hb1⟩
  have hD1 := ((((hD'.out).alloc _).alloc _).drew).below hb1
  have d3 := hD1.c3
  have d7 := hD1.c7
  have hlt1 := hD1.lt
  have b9 := ((Blk.new_ (w := w.alloc (.cells #[.int .i64 0, .int .i64 0, .int .i64 0, .int .i64 0, .int .i64 0, .string ⟨#[]⟩, .string ⟨#[]⟩, .int .i64 0, .bool false] 38)) (t := 60) (cs := #[.int .i64 s.op.kind, .string s.op.key, .string s.op.value, .int .i64 s.op.n]) (k := w.heap.size + 1) (by simp)).drew).below hb1 (by simp <;> omega)
  have b7 := (((Blk.new w 38 #[.int .i64 0, .int .i64 0, .int .i64 0, .int .i64 0, .int .i64 0, .string ⟨#[]⟩, .string ⟨#[]⟩, .int .i64 0, .bool false]).alloc (.cells #[.int .i64 s.op.kind, .string s.op.key, .string s.op.value, .int .i64 s.op.n] 60)).drew).below hb1 (by simp <;> omega)
  have z9 := b9.lt
  have z7 := b7.lt
  have HB1 := Lib.hid (((((Below.refl w.heap.size w).alloc (Nat.le_refl _) _).alloc (by simp <;> omega) _).drew).trans (hb1.mono (by simp <;> omega)))
  have HD1 := Lib.hid hD1
  have k90 := b9.at_ 0 _ rfl
  have k91 := b9.at_ 1 _ rfl
  have k92 := b9.at_ 2 _ rfl
  have k93 := b9.at_ 3 _ rfl
  have H9 := Lib.hid b9
  have H7 := Lib.hid b7
  clear hb1 hD1 b9 b7 c3 c4 c7 q0 q1 q2 q3 hbl
  go_wp2_with fail
  go_region
  go_wp2_with fail
  refine (mode_any _ _ _ _ _).mono ?_
  rintro e w2 ⟨rfl, hb2⟩
  have hD2 := ((HD1.out.alloc (.cells #[.int .i64 2, .int .i64 s.tx, .int .i64 s.attempt, .int .i64 0, .int .i64 (3 * s.at_), .string s.op.key, .string ⟨#[]⟩, .int .i64 0, .bool false] 38)).drew).below hb2
  have n10 := ((Blk.new w1 38 #[.int .i64 2, .int .i64 s.tx, .int .i64 s.attempt, .int .i64 0, .int .i64 (3 * s.at_), .string s.op.key, .string ⟨#[]⟩, .int .i64 0, .bool false]).drew).below hb2 (by simp <;> omega)
  have n7 := ((H7.out.alloc _).drew).below hb2 (by simp <;> omega)
  have n9 := ((H9.out.alloc _).drew).below hb2 (by simp <;> omega)
  have f10 := n10.frozen 7
  have m10 := n10.at_ 7 _ rfl
  have z10 := n10.lt
  have HB2 := Lib.hid (((HB1.out.alloc HB1.out.size _).drew).trans (hb2.mono (by simp <;> omega)))
  have HD2 := Lib.hid hD2
  have N10 := Lib.hid n10
  have N7 := Lib.hid n7
  have N9 := Lib.hid n9
  clear hb2 hD2 n10 n7 n9 k90 k91 k92 k93 d3 d7
  go_wp2_with fail
  generalize hW3 : w2.setCell ⟨w1.heap.size, 7, none⟩ _ = W3
  have x10 : Blk W3 w1.heap.size 38 #[.int .i64 2, .int .i64 s.tx, .int .i64 s.attempt, .int .i64 0, .int .i64 (3 * s.at_), .string s.op.key, .string ⟨#[]⟩, .int .i64 (modeOf s.op), .bool false] := by rw [← hW3]; exact N10.out.set_ 7 _
  have x7 := N7.out.far (p := ⟨w1.heap.size, 7, none⟩) (by show w.heap.size ≠ w1.heap.size; omega) (.int .i64 (modeOf s.op))
  rw [show w2.setCell ⟨w1.heap.size, 7, none⟩ (.int .i64 (modeOf s.op)) = W3 from hW3] at x7
  have x9 := N9.out.far (p := ⟨w1.heap.size, 7, none⟩) (by show w.heap.size + 1 ≠ w1.heap.size; omega) (.int .i64 (modeOf s.op))
  rw [show w2.setCell ⟨w1.heap.size, 7, none⟩ (.int .i64 (modeOf s.op)) = W3 from hW3] at x9
  have hD3 := HD2.out.farN (p := ⟨w1.heap.size, 7, none⟩) (fun k hk e => ⟨_, _, by subst e; exact N10.out, by decide, by decide, by decide, by decide, by decide, by decide⟩) (.int .i64 (modeOf s.op))
  rw [show w2.setCell ⟨w1.heap.size, 7, none⟩ (.int .i64 (modeOf s.op)) = W3 from hW3] at hD3
  have HB3 : Hid (Below w.heap.size w W3) := by rw [← hW3]; exact HB2.out.setCell (by show w.heap.size ≤ w1.heap.size; exact HB1.out.size) _
  clear hW3 HB2 HD2 N10 N7 N9 H7 H9 HD1 f10 m10 z10
  have y3 := hD3.c3
  have y91 := x9.at_ 1 _ rfl
  have y10_0 := x10.at_ 0 _ rfl
  have y10_1 := x10.at_ 1 _ rfl
  have y10_2 := x10.at_ 2 _ rfl
  have y10_3 := x10.at_ 3 _ rfl
  have y10_4 := x10.at_ 4 _ rfl
  have y10_5 := x10.at_ 5 _ rfl
  have y10_6 := x10.at_ 6 _ rfl
  have y10_7 := x10.at_ 7 _ rfl
  have y10_8 := x10.at_ 8 _ rfl
  have y7_0 := x7.at_ 0 _ rfl
  have y7_1 := x7.at_ 1 _ rfl
  have y7_2 := x7.at_ 2 _ rfl
  have y7_3 := x7.at_ 3 _ rfl
  have y7_4 := x7.at_ 4 _ rfl
  have y7_5 := x7.at_ 5 _ rfl
  have y7_6 := x7.at_ 6 _ rfl
  have y7_7 := x7.at_ 7 _ rfl
  have y7_8 := x7.at_ 8 _ rfl
  have yf_0 := x7.frozen 0
  have yf_1 := x7.frozen 1
  have yf_2 := x7.frozen 2
  have yf_3 := x7.frozen 3
  have yf_4 := x7.frozen 4
  have yf_5 := x7.frozen 5
  have yf_6 := x7.frozen 6
  have yf_7 := x7.frozen 7
  have yf_8 := x7.frozen 8
  have hltx := hD3.lt
  have n1 : ¬ g = w.heap.size := by omega
  have n2 : ¬ w.heap.size = g := by omega
  have n3 : ¬ w1.heap.size = w.heap.size := by omega
  have n4 : ¬ w.heap.size = w1.heap.size := by omega
  have z7 := x7.lt
  have z10 := x10.lt
  have z9 := x9.lt
  have HD3 := Lib.hid hD3
  have X10 := Lib.hid x10
  have X7 := Lib.hid x7
  have X9 := Lib.hid x9
  clear hD3 x7 x9 x10
  go_region_held3 (fun W => W.cell? ⟨g, 3, none⟩ = some (.pointer (some ⟨L.gm, 0, none⟩)) ∧ W.cell? ⟨w.heap.size + 1, 1, none⟩ = some (.string s.op.key) ∧ W.cell? ⟨w1.heap.size, 0, none⟩ = some (.int .i64 2) ∧ W.cell? ⟨w1.heap.size, 1, none⟩ = some (.int .i64 s.tx) ∧ W.cell? ⟨w1.heap.size, 2, none⟩ = some (.int .i64 s.attempt) ∧ W.cell? ⟨w1.heap.size, 3, none⟩ = some (.int .i64 0) ∧ W.cell? ⟨w1.heap.size, 4, none⟩ = some (.int .i64 (3 * s.at_)) ∧ W.cell? ⟨w1.heap.size, 5, none⟩ = some (.string s.op.key) ∧ W.cell? ⟨w1.heap.size, 6, none⟩ = some (.string ⟨#[]⟩) ∧ W.cell? ⟨w1.heap.size, 7, none⟩ = some (.int .i64 (modeOf s.op)) ∧ W.cell? ⟨w1.heap.size, 8, none⟩ = some (.bool false)) (go_keep)
    (first | (go_at_call 44; refine (mapOf_any L.gm L.sc s.splits L.sA s.op.key _ h7 HR.out (by exact HD3.out.drew.m0) (by exact Row.of_own HD3.out.drew.spl)).mono ?_; rintro e w4 ⟨rfl, hb4⟩; have v10 := X10.out.drew.below hb4 X10.out.lt; have v9 := X9.out.drew.below hb4 X9.out.lt; have v91 := v9.at_ 1 _ rfl; have v3 := (HD3.out.drew.below hb4).c3; have v10_0 := v10.at_ 0 _ rfl; have v10_1 := v10.at_ 1 _ rfl; have v10_2 := v10.at_ 2 _ rfl; have v10_3 := v10.at_ 3 _ rfl; have v10_4 := v10.at_ 4 _ rfl; have v10_5 := v10.at_ 5 _ rfl; have v10_6 := v10.at_ 6 _ rfl; have v10_7 := v10.at_ 7 _ rfl; have v10_8 := v10.at_ 8 _ rfl; have hz4 := hb4.size; have v7 := X7.out.drew.below hb4 X7.out.lt; have v7_0 := v7.at_ 0 _ rfl; have vf_0 := v7.frozen 0; have v7_1 := v7.at_ 1 _ rfl; have vf_1 := v7.frozen 1; have v7_2 := v7.at_ 2 _ rfl; have vf_2 := v7.frozen 2; have v7_3 := v7.at_ 3 _ rfl; have vf_3 := v7.frozen 3; have v7_4 := v7.at_ 4 _ rfl; have vf_4 := v7.frozen 4; have v7_5 := v7.at_ 5 _ rfl; have vf_5 := v7.frozen 5; have v7_6 := v7.at_ 6 _ rfl; have vf_6 := v7.frozen 6; have v7_7 := v7.at_ 7 _ rfl; have vf_7 := v7.frozen 7; have v7_8 := v7.at_ 8 _ rfl; have vf_8 := v7.frozen 8; have u7 := v7.lt; have HB4 := Lib.hid hb4; clear hb4 v7 v9 v10))
  go_wp2_with fail
  refine bodyPost_ret (v := .tuple #[.int .i64 (shardOf s.splits s.op.key), .agg #[.int .i64 2, .int .i64 s.tx, .int .i64 s.attempt, .int .i64 0, .int .i64 (3 * s.at_), .string s.op.key, .string ⟨#[]⟩, .int .i64 (modeOf s.op), .bool false], .bool true]) (by simp [results, Tryd.results30, go_sem, *]) rfl ⟨rfl, ?_⟩
  iterate 9 refine below_here ?_
  exact HB3.out.drew.trans (HB4.out.mono HB3.out.size)

set_option maxHeartbeats 1000000 in
theorem access_get (hD : Drv w B g L s) (hR : Rise s.splits) (h7 : s.splits.length ≤ 7) (h0 : 0 ≤ s.at_) (h1 : s.at_ < s.plan.length) (h2 : s.at_ ≤ 16) :
    Calls Tryd.prog 30 #[.pointer (some ⟨g, 0, none⟩), .int .i64 3, .int .i64 1] w fun e w' => e = .returned (.tuple #[.int .i64 (shardOf s.splits s.op.key), .agg #[.int .i64 3, .int .i64 s.tx, .int .i64 s.attempt, .int .i64 0, .int .i64 (3 * s.at_ + 1), .string s.op.key, .string ⟨#[]⟩, .int .i64 0, .bool false], .bool true]) ∧ Below w.heap.size w w' := by
  have hlt := hD.lt
  have c3 := hD.c3
  have c4 := hD.c4
  have c7 := hD.c7
  obtain ⟨ad, hA, q0, q1, q2, q3⟩ := (Row.of_own hD.pln).op _ _ (DS.op_get h0 h1)
  rw [hA] at c4
  have hbl := World.block_lt_of_cell? _ _ q0
  have hD' := Lib.hid hD
  have HR := Lib.hid hR
  clear hA hD hR
  go_enter Tryd.func30, Tryd.ntmps30
  go_wp2_with fail
  go_region
  go_wp2_with fail
  refine (command_any (B := B) (L := L) (s := s) (by exact (((hD'.out).alloc _).alloc _).drew) 3).mono ?_
  rintro e w1 ⟨rfl, hb1⟩
  have hD1 := ((((hD'.out).alloc _).alloc _).drew).below hb1
  have d3 := hD1.c3
  have d7 := hD1.c7
  have hlt1 := hD1.lt
  have b9 := ((Blk.new_ (w := w.alloc (.cells #[.int .i64 0, .int .i64 0, .int .i64 0, .int .i64 0, .int .i64 0, .string ⟨#[]⟩, .string ⟨#[]⟩, .int .i64 0, .bool false] 38)) (t := 60) (cs := #[.int .i64 s.op.kind, .string s.op.key, .string s.op.value, .int .i64 s.op.n]) (k := w.heap.size + 1) (by simp)).drew).below hb1 (by simp <;> omega)
  have b7 := (((Blk.new w 38 #[.int .i64 0, .int .i64 0, .int .i64 0, .int .i64 0, .int .i64 0, .string ⟨#[]⟩, .string ⟨#[]⟩, .int .i64 0, .bool false]).alloc (.cells #[.int .i64 s.op.kind, .string s.op.key, .string s.op.value, .int .i64 s.op.n] 60)).drew).below hb1 (by simp <;> omega)
  have z9 := b9.lt
  have z7 := b7.lt
  have HB1 := Lib.hid (((((Below.refl w.heap.size w).alloc (Nat.le_refl _) _).alloc (by simp <;> omega) _).drew).trans (hb1.mono (by simp <;> omega)))
  have HD1 := Lib.hid hD1
  have k90 := b9.at_ 0 _ rfl
  have k91 := b9.at_ 1 _ rfl
  have k92 := b9.at_ 2 _ rfl
  have k93 := b9.at_ 3 _ rfl
  have H9 := Lib.hid b9
  have H7 := Lib.hid b7
  clear hb1 hD1 b9 b7 c3 c4 c7 q0 q1 q2 q3 hbl
  go_wp2_with fail
  go_region
  go_wp2_with fail
  generalize hW3 : (w1.alloc (.cells #[.int .i64 3, .int .i64 s.tx, .int .i64 s.attempt, .int .i64 0, .int .i64 (3 * s.at_ + 1), .string s.op.key, .string ⟨#[]⟩, .int .i64 0, .bool false] 38)).drew = W3
  have x10 : Blk W3 w1.heap.size 38 #[.int .i64 3, .int .i64 s.tx, .int .i64 s.attempt, .int .i64 0, .int .i64 (3 * s.at_ + 1), .string s.op.key, .string ⟨#[]⟩, .int .i64 0, .bool false] := by rw [← hW3]; exact Blk.new w1 _ _
  have x7 : Blk W3 w.heap.size 38 #[.int .i64 0, .int .i64 0, .int .i64 0, .int .i64 0, .int .i64 0, .string ⟨#[]⟩, .string ⟨#[]⟩, .int .i64 0, .bool false] := by rw [← hW3]; exact H7.out.alloc _
  have x9 : Blk W3 (w.heap.size + 1) 60 #[.int .i64 s.op.kind, .string s.op.key, .string s.op.value, .int .i64 s.op.n] := by rw [← hW3]; exact H9.out.alloc _
  have hD3 : Drv W3 B g L s := by rw [← hW3]; exact (HD1.out.alloc _).drew
  have HB3 : Hid (Below w.heap.size w W3) := by rw [← hW3]; exact (HB1.out.alloc HB1.out.size _).drew
  clear hW3 H7 H9 HD1 k90 k91 k92 k93 d3 d7
  have y3 := hD3.c3
  have y91 := x9.at_ 1 _ rfl
  have y10_0 := x10.at_ 0 _ rfl
  have y10_1 := x10.at_ 1 _ rfl
  have y10_2 := x10.at_ 2 _ rfl
  have y10_3 := x10.at_ 3 _ rfl
  have y10_4 := x10.at_ 4 _ rfl
  have y10_5 := x10.at_ 5 _ rfl
  have y10_6 := x10.at_ 6 _ rfl
  have y10_7 := x10.at_ 7 _ rfl
  have y10_8 := x10.at_ 8 _ rfl
  have y7_0 := x7.at_ 0 _ rfl
  have y7_1 := x7.at_ 1 _ rfl
  have y7_2 := x7.at_ 2 _ rfl
  have y7_3 := x7.at_ 3 _ rfl
  have y7_4 := x7.at_ 4 _ rfl
  have y7_5 := x7.at_ 5 _ rfl
  have y7_6 := x7.at_ 6 _ rfl
  have y7_7 := x7.at_ 7 _ rfl
  have y7_8 := x7.at_ 8 _ rfl
  have yf_0 := x7.frozen 0
  have yf_1 := x7.frozen 1
  have yf_2 := x7.frozen 2
  have yf_3 := x7.frozen 3
  have yf_4 := x7.frozen 4
  have yf_5 := x7.frozen 5
  have yf_6 := x7.frozen 6
  have yf_7 := x7.frozen 7
  have yf_8 := x7.frozen 8
  have hltx := hD3.lt
  have n1 : ¬ g = w.heap.size := by omega
  have n2 : ¬ w.heap.size = g := by omega
  have n3 : ¬ w1.heap.size = w.heap.size := by omega
  have n4 : ¬ w.heap.size = w1.heap.size := by omega
  have z7 := x7.lt
  have z10 := x10.lt
  have z9 := x9.lt
  have HD3 := Lib.hid hD3
  have X10 := Lib.hid x10
  have X7 := Lib.hid x7
  have X9 := Lib.hid x9
  clear hD3 x7 x9 x10
  go_region_held3 (fun W => W.cell? ⟨g, 3, none⟩ = some (.pointer (some ⟨L.gm, 0, none⟩)) ∧ W.cell? ⟨w.heap.size + 1, 1, none⟩ = some (.string s.op.key) ∧ W.cell? ⟨w1.heap.size, 0, none⟩ = some (.int .i64 3) ∧ W.cell? ⟨w1.heap.size, 1, none⟩ = some (.int .i64 s.tx) ∧ W.cell? ⟨w1.heap.size, 2, none⟩ = some (.int .i64 s.attempt) ∧ W.cell? ⟨w1.heap.size, 3, none⟩ = some (.int .i64 0) ∧ W.cell? ⟨w1.heap.size, 4, none⟩ = some (.int .i64 (3 * s.at_ + 1)) ∧ W.cell? ⟨w1.heap.size, 5, none⟩ = some (.string s.op.key) ∧ W.cell? ⟨w1.heap.size, 6, none⟩ = some (.string ⟨#[]⟩) ∧ W.cell? ⟨w1.heap.size, 7, none⟩ = some (.int .i64 0) ∧ W.cell? ⟨w1.heap.size, 8, none⟩ = some (.bool false)) (go_keep)
    (first | (go_at_call 44; refine (mapOf_any L.gm L.sc s.splits L.sA s.op.key _ h7 HR.out (by exact HD3.out.drew.m0) (by exact Row.of_own HD3.out.drew.spl)).mono ?_; rintro e w4 ⟨rfl, hb4⟩; have v10 := X10.out.drew.below hb4 X10.out.lt; have v9 := X9.out.drew.below hb4 X9.out.lt; have v91 := v9.at_ 1 _ rfl; have v3 := (HD3.out.drew.below hb4).c3; have v10_0 := v10.at_ 0 _ rfl; have v10_1 := v10.at_ 1 _ rfl; have v10_2 := v10.at_ 2 _ rfl; have v10_3 := v10.at_ 3 _ rfl; have v10_4 := v10.at_ 4 _ rfl; have v10_5 := v10.at_ 5 _ rfl; have v10_6 := v10.at_ 6 _ rfl; have v10_7 := v10.at_ 7 _ rfl; have v10_8 := v10.at_ 8 _ rfl; have hz4 := hb4.size; have v7 := X7.out.drew.below hb4 X7.out.lt; have v7_0 := v7.at_ 0 _ rfl; have vf_0 := v7.frozen 0; have v7_1 := v7.at_ 1 _ rfl; have vf_1 := v7.frozen 1; have v7_2 := v7.at_ 2 _ rfl; have vf_2 := v7.frozen 2; have v7_3 := v7.at_ 3 _ rfl; have vf_3 := v7.frozen 3; have v7_4 := v7.at_ 4 _ rfl; have vf_4 := v7.frozen 4; have v7_5 := v7.at_ 5 _ rfl; have vf_5 := v7.frozen 5; have v7_6 := v7.at_ 6 _ rfl; have vf_6 := v7.frozen 6; have v7_7 := v7.at_ 7 _ rfl; have vf_7 := v7.frozen 7; have v7_8 := v7.at_ 8 _ rfl; have vf_8 := v7.frozen 8; have u7 := v7.lt; have HB4 := Lib.hid hb4; clear hb4 v7 v9 v10))
  go_wp2_with fail
  refine bodyPost_ret (v := .tuple #[.int .i64 (shardOf s.splits s.op.key), .agg #[.int .i64 3, .int .i64 s.tx, .int .i64 s.attempt, .int .i64 0, .int .i64 (3 * s.at_ + 1), .string s.op.key, .string ⟨#[]⟩, .int .i64 0, .bool false], .bool true]) (by simp [results, Tryd.results30, go_sem, *]) rfl ⟨rfl, ?_⟩
  iterate 9 refine below_here ?_
  exact HB3.out.drew.trans (HB4.out.mono HB3.out.size)

set_option maxHeartbeats 1000000 in
theorem access_put (hD : Drv w B g L s) (hR : Rise s.splits) (h7 : s.splits.length ≤ 7) (h0 : 0 ≤ s.at_) (h1 : s.at_ < s.plan.length) (h2 : s.at_ ≤ 16) :
    Calls Tryd.prog 30 #[.pointer (some ⟨g, 0, none⟩), .int .i64 4, .int .i64 2] w fun e w' => e = .returned (.tuple #[.int .i64 (shardOf s.splits s.op.key), .agg #[.int .i64 4, .int .i64 s.tx, .int .i64 s.attempt, .int .i64 0, .int .i64 (3 * s.at_ + 2), .string s.op.key, .string s.write.v, .int .i64 0, .bool s.write.h], .bool true]) ∧ Below w.heap.size w w' := by
  have hlt := hD.lt
  have c3 := hD.c3
  have c4 := hD.c4
  have c7 := hD.c7
  obtain ⟨ad, hA, q0, q1, q2, q3⟩ := (Row.of_own hD.pln).op _ _ (DS.op_get h0 h1)
  rw [hA] at c4
  have hbl := World.block_lt_of_cell? _ _ q0
  have hD' := Lib.hid hD
  have HR := Lib.hid hR
  clear hA hD hR
  go_enter Tryd.func30, Tryd.ntmps30
  go_wp2_with fail
  go_region
  go_wp2_with fail
  refine (command_any (B := B) (L := L) (s := s) (by exact (((hD'.out).alloc _).alloc _).drew) 4).mono ?_
  rintro e w1 ⟨rfl, hb1⟩
  have hD1 := ((((hD'.out).alloc _).alloc _).drew).below hb1
  have d3 := hD1.c3
  have d7 := hD1.c7
  have d10 := hD1.c10
  have d11 := hD1.c11
  have hlt1 := hD1.lt
  have b9 := ((Blk.new_ (w := w.alloc (.cells #[.int .i64 0, .int .i64 0, .int .i64 0, .int .i64 0, .int .i64 0, .string ⟨#[]⟩, .string ⟨#[]⟩, .int .i64 0, .bool false] 38)) (t := 60) (cs := #[.int .i64 s.op.kind, .string s.op.key, .string s.op.value, .int .i64 s.op.n]) (k := w.heap.size + 1) (by simp)).drew).below hb1 (by simp <;> omega)
  have b7 := (((Blk.new w 38 #[.int .i64 0, .int .i64 0, .int .i64 0, .int .i64 0, .int .i64 0, .string ⟨#[]⟩, .string ⟨#[]⟩, .int .i64 0, .bool false]).alloc (.cells #[.int .i64 s.op.kind, .string s.op.key, .string s.op.value, .int .i64 s.op.n] 60)).drew).below hb1 (by simp <;> omega)
  have z9 := b9.lt
  have z7 := b7.lt
  have HB1 := Lib.hid (((((Below.refl w.heap.size w).alloc (Nat.le_refl _) _).alloc (by simp <;> omega) _).drew).trans (hb1.mono (by simp <;> omega)))
  have HD1 := Lib.hid hD1
  have k90 := b9.at_ 0 _ rfl
  have k91 := b9.at_ 1 _ rfl
  have k92 := b9.at_ 2 _ rfl
  have k93 := b9.at_ 3 _ rfl
  have H9 := Lib.hid b9
  have H7 := Lib.hid b7
  clear hb1 hD1 b9 b7 c3 c4 c7 q0 q1 q2 q3 hbl
  go_wp2_with fail
  go_region
  go_wp2_with fail
  go_region
  go_wp2_with fail
  generalize hW3 : (w1.alloc (.cells #[.int .i64 4, .int .i64 s.tx, .int .i64 s.attempt, .int .i64 0, .int .i64 (3 * s.at_ + 2), .string s.op.key, .string s.write.v, .int .i64 0, .bool s.write.h] 38)).drew.drew = W3
  have x10 : Blk W3 w1.heap.size 38 #[.int .i64 4, .int .i64 s.tx, .int .i64 s.attempt, .int .i64 0, .int .i64 (3 * s.at_ + 2), .string s.op.key, .string s.write.v, .int .i64 0, .bool s.write.h] := by rw [← hW3]; exact Blk.new w1 _ _
  have x7 : Blk W3 w.heap.size 38 #[.int .i64 0, .int .i64 0, .int .i64 0, .int .i64 0, .int .i64 0, .string ⟨#[]⟩, .string ⟨#[]⟩, .int .i64 0, .bool false] := by rw [← hW3]; exact H7.out.alloc _
  have x9 : Blk W3 (w.heap.size + 1) 60 #[.int .i64 s.op.kind, .string s.op.key, .string s.op.value, .int .i64 s.op.n] := by rw [← hW3]; exact H9.out.alloc _
  have hD3 : Drv W3 B g L s := by rw [← hW3]; exact (HD1.out.alloc _).drew.drew
  have HB3 : Hid (Below w.heap.size w W3) := by rw [← hW3]; exact (HB1.out.alloc HB1.out.size _).drew.drew
  clear hW3 H7 H9 HD1 k90 k91 k92 k93 d3 d7
  have y3 := hD3.c3
  have y91 := x9.at_ 1 _ rfl
  have y10_0 := x10.at_ 0 _ rfl
  have y10_1 := x10.at_ 1 _ rfl
  have y10_2 := x10.at_ 2 _ rfl
  have y10_3 := x10.at_ 3 _ rfl
  have y10_4 := x10.at_ 4 _ rfl
  have y10_5 := x10.at_ 5 _ rfl
  have y10_6 := x10.at_ 6 _ rfl
  have y10_7 := x10.at_ 7 _ rfl
  have y10_8 := x10.at_ 8 _ rfl
  have y7_0 := x7.at_ 0 _ rfl
  have y7_1 := x7.at_ 1 _ rfl
  have y7_2 := x7.at_ 2 _ rfl
  have y7_3 := x7.at_ 3 _ rfl
  have y7_4 := x7.at_ 4 _ rfl
  have y7_5 := x7.at_ 5 _ rfl
  have y7_6 := x7.at_ 6 _ rfl
  have y7_7 := x7.at_ 7 _ rfl
  have y7_8 := x7.at_ 8 _ rfl
  have yf_0 := x7.frozen 0
  have yf_1 := x7.frozen 1
  have yf_2 := x7.frozen 2
  have yf_3 := x7.frozen 3
  have yf_4 := x7.frozen 4
  have yf_5 := x7.frozen 5
  have yf_6 := x7.frozen 6
  have yf_7 := x7.frozen 7
  have yf_8 := x7.frozen 8
  have hltx := hD3.lt
  have n1 : ¬ g = w.heap.size := by omega
  have n2 : ¬ w.heap.size = g := by omega
  have n3 : ¬ w1.heap.size = w.heap.size := by omega
  have n4 : ¬ w.heap.size = w1.heap.size := by omega
  have z7 := x7.lt
  have z10 := x10.lt
  have z9 := x9.lt
  have HD3 := Lib.hid hD3
  have X10 := Lib.hid x10
  have X7 := Lib.hid x7
  have X9 := Lib.hid x9
  clear hD3 x7 x9 x10
  go_region_held3 (fun W => W.cell? ⟨g, 3, none⟩ = some (.pointer (some ⟨L.gm, 0, none⟩)) ∧ W.cell? ⟨w.heap.size + 1, 1, none⟩ = some (.string s.op.key) ∧ W.cell? ⟨w1.heap.size, 0, none⟩ = some (.int .i64 4) ∧ W.cell? ⟨w1.heap.size, 1, none⟩ = some (.int .i64 s.tx) ∧ W.cell? ⟨w1.heap.size, 2, none⟩ = some (.int .i64 s.attempt) ∧ W.cell? ⟨w1.heap.size, 3, none⟩ = some (.int .i64 0) ∧ W.cell? ⟨w1.heap.size, 4, none⟩ = some (.int .i64 (3 * s.at_ + 2)) ∧ W.cell? ⟨w1.heap.size, 5, none⟩ = some (.string s.op.key) ∧ W.cell? ⟨w1.heap.size, 6, none⟩ = some (.string s.write.v) ∧ W.cell? ⟨w1.heap.size, 7, none⟩ = some (.int .i64 0) ∧ W.cell? ⟨w1.heap.size, 8, none⟩ = some (.bool s.write.h)) (go_keep)
    (first | (go_at_call 44; refine (mapOf_any L.gm L.sc s.splits L.sA s.op.key _ h7 HR.out (by exact HD3.out.drew.m0) (by exact Row.of_own HD3.out.drew.spl)).mono ?_; rintro e w4 ⟨rfl, hb4⟩; have v10 := X10.out.drew.below hb4 X10.out.lt; have v9 := X9.out.drew.below hb4 X9.out.lt; have v91 := v9.at_ 1 _ rfl; have v3 := (HD3.out.drew.below hb4).c3; have v10_0 := v10.at_ 0 _ rfl; have v10_1 := v10.at_ 1 _ rfl; have v10_2 := v10.at_ 2 _ rfl; have v10_3 := v10.at_ 3 _ rfl; have v10_4 := v10.at_ 4 _ rfl; have v10_5 := v10.at_ 5 _ rfl; have v10_6 := v10.at_ 6 _ rfl; have v10_7 := v10.at_ 7 _ rfl; have v10_8 := v10.at_ 8 _ rfl; have hz4 := hb4.size; have v7 := X7.out.drew.below hb4 X7.out.lt; have v7_0 := v7.at_ 0 _ rfl; have vf_0 := v7.frozen 0; have v7_1 := v7.at_ 1 _ rfl; have vf_1 := v7.frozen 1; have v7_2 := v7.at_ 2 _ rfl; have vf_2 := v7.frozen 2; have v7_3 := v7.at_ 3 _ rfl; have vf_3 := v7.frozen 3; have v7_4 := v7.at_ 4 _ rfl; have vf_4 := v7.frozen 4; have v7_5 := v7.at_ 5 _ rfl; have vf_5 := v7.frozen 5; have v7_6 := v7.at_ 6 _ rfl; have vf_6 := v7.frozen 6; have v7_7 := v7.at_ 7 _ rfl; have vf_7 := v7.frozen 7; have v7_8 := v7.at_ 8 _ rfl; have vf_8 := v7.frozen 8; have u7 := v7.lt; have HB4 := Lib.hid hb4; clear hb4 v7 v9 v10))
  go_wp2_with fail
  refine bodyPost_ret (v := .tuple #[.int .i64 (shardOf s.splits s.op.key), .agg #[.int .i64 4, .int .i64 s.tx, .int .i64 s.attempt, .int .i64 0, .int .i64 (3 * s.at_ + 2), .string s.op.key, .string s.write.v, .int .i64 0, .bool s.write.h], .bool true]) (by simp [results, Tryd.results30, go_sem, *]) rfl ⟨rfl, ?_⟩
  iterate 9 refine below_here ?_
  exact HB3.out.drew.trans (HB4.out.mono HB3.out.size)

end
end Go.Proofs.YtheecdjpbfkpdaaDoor
