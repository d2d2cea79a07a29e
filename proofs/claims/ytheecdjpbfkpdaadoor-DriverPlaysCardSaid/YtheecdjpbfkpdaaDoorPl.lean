/-
  Walks: the plan's small functions.
-/
import Derived.Test.YtheecdjpbfkpdaaDoorDw1
import Derived.Test.YtheecdjpbfkpdaaDoorStr
import Derived.Deep.LoopGhost
namespace Go.Proofs.YtheecdjpbfkpdaaDoor
open Go.RowKit
set_option maxRecDepth 100000
set_option linter.unusedSimpArgs false
set_option linter.unusedVariables false

def OpS.val (o : OpS) : Value := .agg #[.int .i64 o.kind, .string o.key, .string o.value, .int .i64 o.n]
def writesB (k : Int) : Bool := decide (2 ≤ k) && decide (k ≤ 5)

set_option maxHeartbeats 400000 in
theorem writes_any (k n : Int) (key val : ByteArray) (w : World) :
    Calls Tryd.prog 50 #[.agg #[.int .i64 k, .string key, .string val, .int .i64 n]] w fun e w' => e = .returned (.bool (writesB k)) ∧ Below w.heap.size w w' := by
  by_cases h1 : 2 ≤ k
  · by_cases h2 : k ≤ 5
    · have e1 : writesB k = true := by simp [writesB, h1, h2]
      rw [e1]
      clear e1
      go_enter Tryd.func50, Tryd.ntmps50
      go_wp2
      go_ret
      exact ⟨rfl, (Below.refl _ _).alloc (Nat.le_refl _) _⟩
    · have e1 : writesB k = false := by simp [writesB, h2]
      rw [e1]
      clear e1
      go_enter Tryd.func50, Tryd.ntmps50
      go_wp2
      go_ret
      exact ⟨rfl, (Below.refl _ _).alloc (Nat.le_refl _) _⟩
  · have e1 : writesB k = false := by simp [writesB, h1]
    rw [e1]
    clear e1
    go_enter Tryd.func50, Tryd.ntmps50
    go_wp2
    go_ret
    exact ⟨rfl, (Below.refl _ _).alloc (Nat.le_refl _) _⟩

set_option maxHeartbeats 400000 in
theorem mode_any (k n : Int) (key val : ByteArray) (w : World) :
    Calls Tryd.prog 43 #[.agg #[.int .i64 k, .string key, .string val, .int .i64 n]] w fun e w' => e = .returned (.int .i64 (modeOf ⟨k, key, val, n⟩)) ∧ Below w.heap.size w w' := by
  have hw := Lib.hid (writes_any k n key val)
  cases hb : writesB k with
  | true =>
    have e1 : modeOf ⟨k, key, val, n⟩ = 2 := by simp [writesB] at hb; simp [modeOf, hb]
    rw [e1]
    clear e1
    rw [hb] at hw
    clear hb
    go_enter Tryd.func43, Tryd.ntmps43
    go_wp2_with fail
    refine (hw.out _).mono ?_
    rintro e w1 ⟨rfl, hb1⟩
    have HB := Lib.hid hb1
    clear hb1
    go_wp2
    go_ret
    exact ⟨rfl, ((Below.refl _ _).alloc (Nat.le_refl _) _).trans (HB.out.mono (by simp))⟩
  | false =>
    rw [hb] at hw
    have k1 : ¬ (2 ≤ k ∧ k ≤ 5) := by simpa [writesB] using hb
    by_cases h1 : k = 1
    · have e1 : modeOf ⟨k, key, val, n⟩ = 1 := by simp [modeOf, h1]
      rw [e1]
      have hk : (k == 1) = true := by simp [h1]
      clear e1 k1 h1 hb
      go_enter Tryd.func43, Tryd.ntmps43
      go_wp2_with fail
      refine (hw.out _).mono ?_
      rintro e w1 ⟨rfl, hb1⟩
      have q0 : w1.cell? ⟨w.heap.size, 0, none⟩ = some (.int .i64 k) := (hb1.cell (p := ⟨w.heap.size, 0, none⟩) (by simp)).trans ((Blk.new w 60 _).at_ 0 _ rfl)
      have HB := Lib.hid hb1
      clear hb1
      go_wp2
      go_ret
      exact ⟨rfl, ((Below.refl _ _).alloc (Nat.le_refl _) _).trans (HB.out.mono (by simp))⟩
    · have e1 : modeOf ⟨k, key, val, n⟩ = 0 := by unfold modeOf; rw [if_neg k1, if_neg h1]
      rw [e1]
      have hk : (k == 1) = false := by simp [h1]
      clear e1 k1 h1 hb
      go_enter Tryd.func43, Tryd.ntmps43
      go_wp2_with fail
      refine (hw.out _).mono ?_
      rintro e w1 ⟨rfl, hb1⟩
      have q0 : w1.cell? ⟨w.heap.size, 0, none⟩ = some (.int .i64 k) := (hb1.cell (p := ⟨w.heap.size, 0, none⟩) (by simp)).trans ((Blk.new w 60 _).at_ 0 _ rfl)
      have HB := Lib.hid hb1
      clear hb1
      go_wp2
      go_ret
      exact ⟨rfl, ((Below.refl _ _).alloc (Nat.le_refl _) _).trans (HB.out.mono (by simp))⟩

/-- What is kept of a result. -/
def plainS (r : ResS) : ResS := if r.h then r else ResS.zero
set_option maxHeartbeats 400000 in
theorem plain_any (v : ByteArray) (h : Bool) (w : World) :
    Calls Tryd.prog 56 #[.agg #[.string v, .bool h]] w fun e w' => e = .returned (.agg #[.string (plainS ⟨v, h⟩).v, .bool (plainS ⟨v, h⟩).h]) ∧ Below w.heap.size w w' := by
  cases h
  · go_enter Tryd.func56, Tryd.ntmps56
    go_wp2
    refine bodyPost_ret (v := .agg #[.string ⟨#[]⟩, .bool false]) (by simp [results, Tryd.results56, go_sem]) rfl ⟨rfl, ((Below.refl _ _).alloc (Nat.le_refl _) _).alloc (by simp) _⟩
  · go_enter Tryd.func56, Tryd.ntmps56
    go_wp2
    refine bodyPost_ret (v := .agg #[.string v, .bool true]) (by simp [results, Tryd.results56, go_sem]) rfl ⟨rfl, ((Below.refl _ _).alloc (Nat.le_refl _) _).alloc (by simp) _⟩

def clampI (n : Int) : Int := min (max n (-1125899906842624)) 1125899906842624
set_option maxHeartbeats 400000 in
theorem clamp_any (n : Int) (w : World) :
    Calls Tryd.prog 57 #[.int .i64 n] w fun e w' => e = .returned (.int .i64 (clampI n)) ∧ ∃ q, w' = w.drewN q := by
  by_cases h1 : n < -1125899906842624
  · have e1 : clampI n = -1125899906842624 := by unfold clampI; omega
    rw [e1]
    clear e1
    go_enter Tryd.func57, Tryd.ntmps57
    go_wp2
    all_goals first | omega | (go_ret; exact ⟨rfl, 0, rfl⟩)
  · by_cases h2 : 1125899906842624 < n
    · have e1 : clampI n = 1125899906842624 := by unfold clampI; omega
      rw [e1]
      clear e1
      go_enter Tryd.func57, Tryd.ntmps57
      go_wp2
      all_goals first | omega | (go_ret; exact ⟨rfl, 0, rfl⟩)
    · have e1 : clampI n = n := by unfold clampI; omega
      rw [e1]
      clear e1
      go_enter Tryd.func57, Tryd.ntmps57
      go_wp2
      all_goals first | omega | (go_ret; exact ⟨rfl, 0, rfl⟩)
end Go.Proofs.YtheecdjpbfkpdaaDoor
