/-
  Walks: the driver's Next and Told, whole.
-/
import Derived.Test.YtheecdjpbfkpdaaDoorDpl
namespace Go.Proofs.YtheecdjpbfkpdaaDoor
open Go.RowKit
set_option maxRecDepth 100000
set_option linter.unusedSimpArgs false
set_option linter.unusedVariables false

section
variable {w : World} {B g : Nat} {L : DL} {s : DS}
theorem next_any (hD : Drv w B g L s) (h : DInv s) :
    Calls Tryd.prog 10 #[.pointer (some ⟨g, 0, none⟩)] w fun e w' => e = .returned (.tuple #[.int .i64 s.next.1, .agg #[.int .i64 s.next.2.1.kind, .int .i64 s.next.2.1.tx, .int .i64 s.next.2.1.attempt, .int .i64 s.next.2.1.stamp, .int .i64 s.next.2.1.op, .string s.next.2.1.key, .string s.next.2.1.value, .int .i64 s.next.2.1.mode, .bool s.next.2.1.yes], .bool s.next.2.2]) ∧ Below w.heap.size w w' := by
  have h16 := h.at16
  unfold DS.next
  by_cases p0 : s.phase = 0
  · simp only [p0, if_true]; exact next_open hD p0 h.spl7 h.tx0
  by_cases p1 : s.phase = 1
  · rw [if_neg p0, if_pos p1]; exact next_lock hD p1 h.rise h.spl7 h.at0 (h.ops (.inl p1)) h16
  by_cases p3 : s.phase = 3
  · rw [if_neg p0, if_neg p1, if_pos p3]; exact next_get hD p3 h.rise h.spl7 h.at0 (h.ops (.inr (.inr (.inl p3)))) h16
  by_cases p4 : s.phase = 4
  · rw [if_neg p0, if_neg p1, if_neg p3, if_pos p4]; exact next_put hD p4 h.rise h.spl7 h.at0 (h.ops (.inr (.inr (.inr p4)))) h16
  by_cases p2 : s.phase = 2
  · rw [if_neg p0, if_neg p1, if_neg p3, if_neg p4, if_pos p2]; exact next_beat hD p2 h.spl7 h.tx0
  by_cases p5 : s.phase = 5
  · rw [if_neg p0, if_neg p1, if_neg p3, if_neg p4, if_neg p2, if_pos p5]; exact next_decide hD p5 h.spl7 h.tx0
  by_cases p6 : s.phase = 6
  · rw [if_neg p0, if_neg p1, if_neg p3, if_neg p4, if_neg p2, if_neg p5, if_pos p6]; exact next_kill hD p6 h.spl7 h.tx0
  by_cases p7 : s.phase = 7
  · rw [if_neg p0, if_neg p1, if_neg p3, if_neg p4, if_neg p2, if_neg p5, if_neg p6, if_pos p7]
    obtain ⟨l0, lr, hl⟩ := List.exists_cons_of_ne_nil (h.left1 p7)
    rw [hl]
    exact next_finish hD p7 l0 lr hl
  · have p8 : s.phase = 8 := by have := h.ph0; have := h.ph8; omega
    rw [if_neg p0, if_neg p1, if_neg p3, if_neg p4, if_neg p2, if_neg p5, if_neg p6, if_neg p7]
    exact next_over hD p8
theorem next_some (s : DS) (h : DInv s) : s.next.2.2 = decide (s.phase ≠ 8) := by
  have := h.ph0
  have := h.ph8
  unfold DS.next
  repeat' split
  all_goals simp_all
  all_goals omega

set_option maxHeartbeats 2000000 in
theorem told_other (c : CmdS) (r : RepS) (hD : Drv w B g L s) (h : DInv s) (hp : s.phase ≠ 8) (hc : cmdEq c s.next.2.1 = false) :
    Calls Tryd.prog 12 #[.pointer (some ⟨g, 0, none⟩), .agg #[.int .i64 c.kind, .int .i64 c.tx, .int .i64 c.attempt, .int .i64 c.stamp, .int .i64 c.op, .string c.key, .string c.value, .int .i64 c.mode, .bool c.yes], .agg #[.int .i64 r.code, .int .i64 r.state, .string r.v, .bool r.h]] w fun e w' => e = .returned (.bool false) ∧ Below w.heap.size w w' := by
  have hq := fun d w => eqCmd d w c s.next.2.1
  rw [hc] at hq
  have hs : s.next.2.2 = true := by rw [next_some s h]; simpa using hp
  have HN := Lib.hid (fun W (hW : Drv W B g L s) => next_any hW h)
  rw [hs] at HN
  have HD := Lib.hid hD
  clear hD h hp hc hs
  generalize s.next.1 = n0 at *
  generalize s.next.2.1 = c0 at *
  go_enter Tryd.func12, Tryd.ntmps12
  go_wp2_with fail
  refine (HN.out _ (by exact (HD.out.alloc _).alloc _)).mono ?_
  rintro e w1 ⟨rfl, hb1⟩
  have b4 := ((Blk.new w 38 #[.int .i64 c.kind, .int .i64 c.tx, .int .i64 c.attempt, .int .i64 c.stamp, .int .i64 c.op, .string c.key, .string c.value, .int .i64 c.mode, .bool c.yes]).alloc (.cells #[.int .i64 r.code, .int .i64 r.state, .string r.v, .bool r.h] 36)).below hb1 (by simp <;> omega)
  have k0 := b4.at_ 0 _ rfl
  have k1 := b4.at_ 1 _ rfl
  have k2 := b4.at_ 2 _ rfl
  have k3 := b4.at_ 3 _ rfl
  have k4 := b4.at_ 4 _ rfl
  have k5 := b4.at_ 5 _ rfl
  have k6 := b4.at_ 6 _ rfl
  have k7 := b4.at_ 7 _ rfl
  have k8 := b4.at_ 8 _ rfl
  have z4 := b4.lt
  have HB := Lib.hid ((((Below.refl w.heap.size w).alloc (Nat.le_refl _) (.cells #[.int .i64 c.kind, .int .i64 c.tx, .int .i64 c.attempt, .int .i64 c.stamp, .int .i64 c.op, .string c.key, .string c.value, .int .i64 c.mode, .bool c.yes] 38)).alloc (by simp) (.cells #[.int .i64 r.code, .int .i64 r.state, .string r.v, .bool r.h] 36)).trans (hb1.mono (by simp <;> omega)))
  clear hb1 b4
  go_wp2_with fail
  go_ret
  exact ⟨rfl, HB.out.alloc HB.out.size _⟩

set_option maxHeartbeats 2000000 in
theorem told_over (c : CmdS) (r : RepS) (hD : Drv w B g L s) (h : DInv s) (hp : s.phase = 8) :
    Calls Tryd.prog 12 #[.pointer (some ⟨g, 0, none⟩), .agg #[.int .i64 c.kind, .int .i64 c.tx, .int .i64 c.attempt, .int .i64 c.stamp, .int .i64 c.op, .string c.key, .string c.value, .int .i64 c.mode, .bool c.yes], .agg #[.int .i64 r.code, .int .i64 r.state, .string r.v, .bool r.h]] w fun e w' => e = .returned (.bool false) ∧ Below w.heap.size w w' := by
  have hs : s.next.2.2 = false := by rw [next_some s h]; simp [hp]
  have HN := Lib.hid (fun W (hW : Drv W B g L s) => next_any hW h)
  rw [hs] at HN
  have HD := Lib.hid hD
  clear hD h hp hs
  generalize s.next.1 = n0 at *
  generalize s.next.2.1 = c0 at *
  go_enter Tryd.func12, Tryd.ntmps12
  go_wp2_with fail
  refine (HN.out _ (by exact (HD.out.alloc _).alloc _)).mono ?_
  rintro e w1 ⟨rfl, hb1⟩
  have b4 := ((Blk.new w 38 #[.int .i64 c.kind, .int .i64 c.tx, .int .i64 c.attempt, .int .i64 c.stamp, .int .i64 c.op, .string c.key, .string c.value, .int .i64 c.mode, .bool c.yes]).alloc (.cells #[.int .i64 r.code, .int .i64 r.state, .string r.v, .bool r.h] 36)).below hb1 (by simp <;> omega)
  have k0 := b4.at_ 0 _ rfl
  have k1 := b4.at_ 1 _ rfl
  have k2 := b4.at_ 2 _ rfl
  have k3 := b4.at_ 3 _ rfl
  have k4 := b4.at_ 4 _ rfl
  have k5 := b4.at_ 5 _ rfl
  have k6 := b4.at_ 6 _ rfl
  have k7 := b4.at_ 7 _ rfl
  have k8 := b4.at_ 8 _ rfl
  have z4 := b4.lt
  have HB := Lib.hid ((((Below.refl w.heap.size w).alloc (Nat.le_refl _) (.cells #[.int .i64 c.kind, .int .i64 c.tx, .int .i64 c.attempt, .int .i64 c.stamp, .int .i64 c.op, .string c.key, .string c.value, .int .i64 c.mode, .bool c.yes] 38)).alloc (by simp) (.cells #[.int .i64 r.code, .int .i64 r.state, .string r.v, .bool r.h] 36)).trans (hb1.mono (by simp <;> omega)))
  clear hb1 b4
  go_wp2_with fail
  go_ret
  exact ⟨rfl, HB.out.alloc HB.out.size _⟩

set_option maxHeartbeats 2000000 in
theorem told_acc (c : CmdS) (r : RepS) (hD : Drv w B g L s) (h : DInv s) (hc : cmdEq c s.next.2.1 = true) (hp : s.phase = 1 ∨ s.phase = 3 ∨ s.phase = 4) (hrv : r.v.size ≤ 281474976710656) (hG : Glob w) (hB : 3 ≤ B) :
    Calls Tryd.prog 12 #[.pointer (some ⟨g, 0, none⟩), .agg #[.int .i64 c.kind, .int .i64 c.tx, .int .i64 c.attempt, .int .i64 c.stamp, .int .i64 c.op, .string c.key, .string c.value, .int .i64 c.mode, .bool c.yes], .agg #[.int .i64 r.code, .int .i64 r.state, .string r.v, .bool r.h]] w fun e w' => e = .returned (.bool true) ∧ DPost w B g L (s.told r) w' := by
  have e1 : s.told r = s.accessed r := by unfold DS.told; rw [if_pos hp]
  rw [e1]
  have hq := fun d w => eqCmd d w c s.next.2.1
  rw [hc] at hq
  have hs : s.next.2.2 = true := by rw [next_some s h]; simp; omega
  have HA := Lib.hid (fun W (hW : Drv W B g L s) (hGW : Glob W) => accessed_any r hW h.rise h.spl7 h.sort (by have := h.touLen; omega) hp h.at0 (h.ops (by omega)) h.pln16 (by have := h.res16; omega) hrv hGW hB)
  have HG := Lib.hid hG
  have hgB := hD.gB
  rcases hp with hp | hp | hp
  all_goals
    have HPH := Lib.hid hp
    have HN := Lib.hid (fun W (hW : Drv W B g L s) => next_any hW h)
    rw [hs] at HN
    have HD := Lib.hid hD
    clear hD h hp hc hs e1 hG
    generalize s.next.1 = n0 at *
    generalize s.next.2.1 = c0 at *
    go_enter Tryd.func12, Tryd.ntmps12
    go_wp2_with fail
    refine (HN.out _ (by exact (HD.out.alloc _).alloc _)).mono ?_
    rintro e w1 ⟨rfl, hb1⟩
    have b4 := ((Blk.new w 38 #[.int .i64 c.kind, .int .i64 c.tx, .int .i64 c.attempt, .int .i64 c.stamp, .int .i64 c.op, .string c.key, .string c.value, .int .i64 c.mode, .bool c.yes]).alloc (.cells #[.int .i64 r.code, .int .i64 r.state, .string r.v, .bool r.h] 36)).below hb1 (by simp <;> omega)
    have k0 := b4.at_ 0 _ rfl
    have k1 := b4.at_ 1 _ rfl
    have k2 := b4.at_ 2 _ rfl
    have k3 := b4.at_ 3 _ rfl
    have k4 := b4.at_ 4 _ rfl
    have k5 := b4.at_ 5 _ rfl
    have k6 := b4.at_ 6 _ rfl
    have k7 := b4.at_ 7 _ rfl
    have k8 := b4.at_ 8 _ rfl
    have z4 := b4.lt
    have HB := Lib.hid ((((Below.refl w.heap.size w).alloc (Nat.le_refl _) (.cells #[.int .i64 c.kind, .int .i64 c.tx, .int .i64 c.attempt, .int .i64 c.stamp, .int .i64 c.op, .string c.key, .string c.value, .int .i64 c.mode, .bool c.yes] 38)).alloc (by simp) (.cells #[.int .i64 r.code, .int .i64 r.state, .string r.v, .bool r.h] 36)).trans (hb1.mono (by simp <;> omega)))
    have b5 := (Blk.new_ (w := w.alloc (.cells #[.int .i64 c.kind, .int .i64 c.tx, .int .i64 c.attempt, .int .i64 c.stamp, .int .i64 c.op, .string c.key, .string c.value, .int .i64 c.mode, .bool c.yes] 38)) (t := 36) (cs := #[.int .i64 r.code, .int .i64 r.state, .string r.v, .bool r.h]) (k := w.heap.size + 1) (by simp)).below hb1 (by simp <;> omega)
    have m0 := b5.at_ 0 _ rfl
    have m1 := b5.at_ 1 _ rfl
    have m2 := b5.at_ 2 _ rfl
    have m3 := b5.at_ 3 _ rfl
    have z5 := b5.lt
    have hD1 := ((HD.out.alloc _).alloc _).below hb1
    have e6 := hD1.c6
    rw [HPH.out] at e6
    have hlt1 := hD1.lt
    have HD1 := Lib.hid hD1
    clear hb1 b4 b5 hD1
    go_wp2_with fail
    refine (HA.out _ (by exact HD1.out.alloc _) (by exact HG.out.keep (fun k hk => (Below.heap_alloc _ _ _ (by have := HB.out.size; have := HD.out.lt; omega)).trans (HB.out.block k (by have := HD.out.lt; omega))))).mono ?_
    rintro e w2 ⟨rfl, hP⟩
    have HP := Lib.hid hP
    clear hP
    go_wp2_with fail
    go_ret
    exact ⟨rfl, DPost.from_ (L1 := L) ((Upd.of_below HB.out).alloc _) (fun _ hk => .inl hk) HP.out⟩

set_option maxHeartbeats 2000000 in
theorem told_home (c : CmdS) (r : RepS) (hD : Drv w B g L s) (h : DInv s) (hc : cmdEq c s.next.2.1 = true) (hp : s.phase = 0 ∨ s.phase = 2 ∨ s.phase = 5 ∨ s.phase = 6) :
    Calls Tryd.prog 12 #[.pointer (some ⟨g, 0, none⟩), .agg #[.int .i64 c.kind, .int .i64 c.tx, .int .i64 c.attempt, .int .i64 c.stamp, .int .i64 c.op, .string c.key, .string c.value, .int .i64 c.mode, .bool c.yes], .agg #[.int .i64 r.code, .int .i64 r.state, .string r.v, .bool r.h]] w fun e w' => e = .returned (.bool true) ∧ DPost w B g L (s.told r) w' := by
  have e1 : s.told r = s.homed r := by unfold DS.told; rw [if_neg (by omega), if_neg (by omega)]
  rw [e1]
  have hq := fun d w => eqCmd d w c s.next.2.1
  rw [hc] at hq
  have hs : s.next.2.2 = true := by rw [next_some s h]; simp; omega
  have HA := Lib.hid (fun W (hW : Drv W B g L s) => homed_any r hW h.rise h.spl7 h.sort (by have := h.touLen; omega) hp h.att0 h.att1 h.tries1)
  rcases hp with hp | hp | hp | hp
  all_goals
    have HPH := Lib.hid hp
    have HN := Lib.hid (fun W (hW : Drv W B g L s) => next_any hW h)
    rw [hs] at HN
    have HD := Lib.hid hD
    clear hD h hp hc hs e1
    generalize s.next.1 = n0 at *
    generalize s.next.2.1 = c0 at *
    go_enter Tryd.func12, Tryd.ntmps12
    go_wp2_with fail
    refine (HN.out _ (by exact (HD.out.alloc _).alloc _)).mono ?_
    rintro e w1 ⟨rfl, hb1⟩
    have b4 := ((Blk.new w 38 #[.int .i64 c.kind, .int .i64 c.tx, .int .i64 c.attempt, .int .i64 c.stamp, .int .i64 c.op, .string c.key, .string c.value, .int .i64 c.mode, .bool c.yes]).alloc (.cells #[.int .i64 r.code, .int .i64 r.state, .string r.v, .bool r.h] 36)).below hb1 (by simp <;> omega)
    have k0 := b4.at_ 0 _ rfl
    have k1 := b4.at_ 1 _ rfl
    have k2 := b4.at_ 2 _ rfl
    have k3 := b4.at_ 3 _ rfl
    have k4 := b4.at_ 4 _ rfl
    have k5 := b4.at_ 5 _ rfl
    have k6 := b4.at_ 6 _ rfl
    have k7 := b4.at_ 7 _ rfl
    have k8 := b4.at_ 8 _ rfl
    have z4 := b4.lt
    have HB := Lib.hid ((((Below.refl w.heap.size w).alloc (Nat.le_refl _) (.cells #[.int .i64 c.kind, .int .i64 c.tx, .int .i64 c.attempt, .int .i64 c.stamp, .int .i64 c.op, .string c.key, .string c.value, .int .i64 c.mode, .bool c.yes] 38)).alloc (by simp) (.cells #[.int .i64 r.code, .int .i64 r.state, .string r.v, .bool r.h] 36)).trans (hb1.mono (by simp <;> omega)))
    have b5 := (Blk.new_ (w := w.alloc (.cells #[.int .i64 c.kind, .int .i64 c.tx, .int .i64 c.attempt, .int .i64 c.stamp, .int .i64 c.op, .string c.key, .string c.value, .int .i64 c.mode, .bool c.yes] 38)) (t := 36) (cs := #[.int .i64 r.code, .int .i64 r.state, .string r.v, .bool r.h]) (k := w.heap.size + 1) (by simp)).below hb1 (by simp <;> omega)
    have m0 := b5.at_ 0 _ rfl
    have m1 := b5.at_ 1 _ rfl
    have m2 := b5.at_ 2 _ rfl
    have m3 := b5.at_ 3 _ rfl
    have z5 := b5.lt
    have hD1 := ((HD.out.alloc _).alloc _).below hb1
    have e6 := hD1.c6
    rw [HPH.out] at e6
    have hlt1 := hD1.lt
    have HD1 := Lib.hid hD1
    clear hb1 b4 b5 hD1
    go_wp2_with fail
    refine (HA.out _ (by exact HD1.out.alloc _)).mono ?_
    rintro e w2 ⟨rfl, hP⟩
    have HP := Lib.hid hP
    clear hP
    go_wp2_with fail
    go_ret
    exact ⟨rfl, DPost.from_ (L1 := L) ((Upd.of_below HB.out).alloc _) (fun _ hk => .inl hk) HP.out⟩

set_option maxHeartbeats 2000000 in
theorem told_fin_no (c : CmdS) (r : RepS) (hD : Drv w B g L s) (h : DInv s) (hc : cmdEq c s.next.2.1 = true) (hp : s.phase = 7) (hc0 : r.code ≠ 0) :
    Calls Tryd.prog 12 #[.pointer (some ⟨g, 0, none⟩), .agg #[.int .i64 c.kind, .int .i64 c.tx, .int .i64 c.attempt, .int .i64 c.stamp, .int .i64 c.op, .string c.key, .string c.value, .int .i64 c.mode, .bool c.yes], .agg #[.int .i64 r.code, .int .i64 r.state, .string r.v, .bool r.h]] w fun e w' => e = .returned (.bool true) ∧ DPost w B g L (s.told r) w' := by
  have e1 : s.told r = s := by unfold DS.told; rw [if_neg (by omega), if_pos hp, if_neg hc0]
  rw [e1]
  have hq := fun d w => eqCmd d w c s.next.2.1
  rw [hc] at hq
  have hs : s.next.2.2 = true := by rw [next_some s h]; simp; omega
  have b0 : (r.code == 0) = false := by simpa using hc0
  have HPH := Lib.hid hp
  have HN := Lib.hid (fun W (hW : Drv W B g L s) => next_any hW h)
  rw [hs] at HN
  have HD := Lib.hid hD
  clear hD h hp hc hs e1 hc0
  generalize s.next.1 = n0 at *
  generalize s.next.2.1 = c0 at *
  go_enter Tryd.func12, Tryd.ntmps12
  go_wp2_with fail
  refine (HN.out _ (by exact (HD.out.alloc _).alloc _)).mono ?_
  rintro e w1 ⟨rfl, hb1⟩
  have b4 := ((Blk.new w 38 #[.int .i64 c.kind, .int .i64 c.tx, .int .i64 c.attempt, .int .i64 c.stamp, .int .i64 c.op, .string c.key, .string c.value, .int .i64 c.mode, .bool c.yes]).alloc (.cells #[.int .i64 r.code, .int .i64 r.state, .string r.v, .bool r.h] 36)).below hb1 (by simp <;> omega)
  have k0 := b4.at_ 0 _ rfl
  have k1 := b4.at_ 1 _ rfl
  have k2 := b4.at_ 2 _ rfl
  have k3 := b4.at_ 3 _ rfl
  have k4 := b4.at_ 4 _ rfl
  have k5 := b4.at_ 5 _ rfl
  have k6 := b4.at_ 6 _ rfl
  have k7 := b4.at_ 7 _ rfl
  have k8 := b4.at_ 8 _ rfl
  have z4 := b4.lt
  have HB := Lib.hid ((((Below.refl w.heap.size w).alloc (Nat.le_refl _) (.cells #[.int .i64 c.kind, .int .i64 c.tx, .int .i64 c.attempt, .int .i64 c.stamp, .int .i64 c.op, .string c.key, .string c.value, .int .i64 c.mode, .bool c.yes] 38)).alloc (by simp) (.cells #[.int .i64 r.code, .int .i64 r.state, .string r.v, .bool r.h] 36)).trans (hb1.mono (by simp <;> omega)))
  have b5 := (Blk.new_ (w := w.alloc (.cells #[.int .i64 c.kind, .int .i64 c.tx, .int .i64 c.attempt, .int .i64 c.stamp, .int .i64 c.op, .string c.key, .string c.value, .int .i64 c.mode, .bool c.yes] 38)) (t := 36) (cs := #[.int .i64 r.code, .int .i64 r.state, .string r.v, .bool r.h]) (k := w.heap.size + 1) (by simp)).below hb1 (by simp <;> omega)
  have m0 := b5.at_ 0 _ rfl
  have m1 := b5.at_ 1 _ rfl
  have m2 := b5.at_ 2 _ rfl
  have m3 := b5.at_ 3 _ rfl
  have z5 := b5.lt
  have hD1 := ((HD.out.alloc _).alloc _).below hb1
  have e6 := hD1.c6
  rw [HPH.out] at e6
  have hlt1 := hD1.lt
  have HD1 := Lib.hid hD1
  clear hb1 b4 b5 hD1
  go_wp2_with fail
  go_ret
  exact ⟨rfl, DPost.refl_ HD.out (HB.out.alloc HB.out.size _)⟩

set_option maxHeartbeats 2000000 in
theorem told_fin1 (c : CmdS) (l0 : Int) (r : RepS) (hD : Drv w B g L s) (h : DInv s) (hc : cmdEq c s.next.2.1 = true) (hp : s.phase = 7) (hc0 : r.code = 0) (hl : s.left = l0 :: []) (h1 : L.lc = 1) :
    Calls Tryd.prog 12 #[.pointer (some ⟨g, 0, none⟩), .agg #[.int .i64 c.kind, .int .i64 c.tx, .int .i64 c.attempt, .int .i64 c.stamp, .int .i64 c.op, .string c.key, .string c.value, .int .i64 c.mode, .bool c.yes], .agg #[.int .i64 r.code, .int .i64 r.state, .string r.v, .bool r.h]] w fun e w' => e = .returned (.bool true) ∧ DPost w B g L (s.told r) w' := by
  have e1 : s.told r = ({ s with left := [] : DS }).behind := by unfold DS.told; rw [if_neg (by omega), if_pos hp, if_pos hc0, hl, List.tail_cons]; rfl
  rw [e1]
  have hq := fun d w => eqCmd d w c s.next.2.1
  rw [hc] at hq
  have hs : s.next.2.2 = true := by rw [next_some s h]; simp; omega
  have b0 : (r.code == 0) = true := by simpa using hc0
  have HPH := Lib.hid hp
  have HL := Lib.hid hl
  have ha0 := h.att0
  have ha1 := h.att1
  have ha2 := h.tries1
  obtain ⟨hlc, kk, hlk, hlA⟩ := hD.lef hp
  obtain ⟨gt, nt, ct, hTV, hA⟩ := hlA (by rw [hl]; simp)
  rw [hl] at hlc hlk
  simp only [List.length_cons, List.length_nil] at hlc
  have hk2 : s.touched.drop (kk + 1) = [] := by
    have := congrArg List.tail hlk
    rw [List.tail_drop] at this
    exact this.symm
  have hok : LeftOk { L with lA := some ⟨gt, kk, none⟩, lc := 0 } { s with left := [] } := ⟨by show ([] : List Int).length ≤ 0; simp only [List.length_cons, List.length_nil]; omega, kk + 1, hk2.symm, (fun hne => absurd rfl hne)⟩
  have HOK := Lib.hid hok
  have HN := Lib.hid (fun W (hW : Drv W B g L s) => next_any hW h)
  rw [hs] at HN
  have HD := Lib.hid hD
  clear hD h hp hc hs e1 hc0 hl hok hk2 hlk hTV hlA
  generalize s.next.1 = n0 at *
  generalize s.next.2.1 = c0 at *
  go_enter Tryd.func12, Tryd.ntmps12
  go_wp2_with fail
  refine (HN.out _ (by exact (HD.out.alloc _).alloc _)).mono ?_
  rintro e w1 ⟨rfl, hb1⟩
  have b4 := ((Blk.new w 38 #[.int .i64 c.kind, .int .i64 c.tx, .int .i64 c.attempt, .int .i64 c.stamp, .int .i64 c.op, .string c.key, .string c.value, .int .i64 c.mode, .bool c.yes]).alloc (.cells #[.int .i64 r.code, .int .i64 r.state, .string r.v, .bool r.h] 36)).below hb1 (by simp <;> omega)
  have k0 := b4.at_ 0 _ rfl
  have k1 := b4.at_ 1 _ rfl
  have k2 := b4.at_ 2 _ rfl
  have k3 := b4.at_ 3 _ rfl
  have k4 := b4.at_ 4 _ rfl
  have k5 := b4.at_ 5 _ rfl
  have k6 := b4.at_ 6 _ rfl
  have k7 := b4.at_ 7 _ rfl
  have k8 := b4.at_ 8 _ rfl
  have z4 := b4.lt
  have HB := Lib.hid ((((Below.refl w.heap.size w).alloc (Nat.le_refl _) (.cells #[.int .i64 c.kind, .int .i64 c.tx, .int .i64 c.attempt, .int .i64 c.stamp, .int .i64 c.op, .string c.key, .string c.value, .int .i64 c.mode, .bool c.yes] 38)).alloc (by simp) (.cells #[.int .i64 r.code, .int .i64 r.state, .string r.v, .bool r.h] 36)).trans (hb1.mono (by simp <;> omega)))
  have b5 := (Blk.new_ (w := w.alloc (.cells #[.int .i64 c.kind, .int .i64 c.tx, .int .i64 c.attempt, .int .i64 c.stamp, .int .i64 c.op, .string c.key, .string c.value, .int .i64 c.mode, .bool c.yes] 38)) (t := 36) (cs := #[.int .i64 r.code, .int .i64 r.state, .string r.v, .bool r.h]) (k := w.heap.size + 1) (by simp)).below hb1 (by simp <;> omega)
  have m0 := b5.at_ 0 _ rfl
  have m1 := b5.at_ 1 _ rfl
  have m2 := b5.at_ 2 _ rfl
  have m3 := b5.at_ 3 _ rfl
  have z5 := b5.lt
  have hD1 := ((HD.out.alloc _).alloc _).below hb1
  have e6 := hD1.c6
  rw [HPH.out] at e6
  have hlt1 := hD1.lt
  have e14 : w1.cell? ⟨g, 14, none⟩ = some (.slice (some ⟨gt, kk, none⟩) ((l0 :: []).length) L.lc) := by have := hD1.c14; rw [HL.out, hA] at this; exact this
  simp only [List.length_cons, List.length_nil] at e14
  have f14 := hD1.fz 14
  have hD2 := hD1.set14 (some ⟨gt, kk, none⟩) ([]) (0) (fun _ => HOK.out)
  try simp only [List.length_nil, List.length_cons] at hD2
  have HD2 := Lib.hid hD2
  clear hD2
  have HD1 := Lib.hid hD1
  clear hb1 b4 b5 hD1
  go_wp2_with fail
  refine (behind_any (s := { s with left := [] }) (by exact HD2.out.alloc _) ha0 ha1 ha2).mono ?_
  rintro e w2 ⟨rfl, hP⟩
  have HP := Lib.hid hP
  clear hP
  go_wp2_with fail
  go_ret
  exact ⟨rfl, DPost.from_same (((Upd.of_below HB.out).at_g).alloc _) rfl rfl HP.out⟩

set_option maxHeartbeats 2000000 in
theorem told_fin2 (c : CmdS) (l0 : Int) (r : RepS) (hD : Drv w B g L s) (h : DInv s) (hc : cmdEq c s.next.2.1 = true) (hp : s.phase = 7) (hc0 : r.code = 0) (hl : s.left = l0 :: []) (h1 : L.lc ≠ 1) :
    Calls Tryd.prog 12 #[.pointer (some ⟨g, 0, none⟩), .agg #[.int .i64 c.kind, .int .i64 c.tx, .int .i64 c.attempt, .int .i64 c.stamp, .int .i64 c.op, .string c.key, .string c.value, .int .i64 c.mode, .bool c.yes], .agg #[.int .i64 r.code, .int .i64 r.state, .string r.v, .bool r.h]] w fun e w' => e = .returned (.bool true) ∧ DPost w B g L (s.told r) w' := by
  have e1 : s.told r = ({ s with left := [] : DS }).behind := by unfold DS.told; rw [if_neg (by omega), if_pos hp, if_pos hc0, hl, List.tail_cons]; rfl
  rw [e1]
  have hq := fun d w => eqCmd d w c s.next.2.1
  rw [hc] at hq
  have hs : s.next.2.2 = true := by rw [next_some s h]; simp; omega
  have b0 : (r.code == 0) = true := by simpa using hc0
  have HPH := Lib.hid hp
  have HL := Lib.hid hl
  have ha0 := h.att0
  have ha1 := h.att1
  have ha2 := h.tries1
  obtain ⟨hlc, kk, hlk, hlA⟩ := hD.lef hp
  obtain ⟨gt, nt, ct, hTV, hA⟩ := hlA (by rw [hl]; simp)
  rw [hl] at hlc hlk
  simp only [List.length_cons, List.length_nil] at hlc
  have hk2 : s.touched.drop (kk + 1) = [] := by
    have := congrArg List.tail hlk
    rw [List.tail_drop] at this
    exact this.symm
  have hok : LeftOk { L with lA := some ⟨gt, kk + 1, none⟩, lc := L.lc - 1 } { s with left := [] } := ⟨by show ([] : List Int).length ≤ L.lc - 1; simp only [List.length_cons, List.length_nil]; omega, kk + 1, hk2.symm, (fun hne => absurd rfl hne)⟩
  have HOK := Lib.hid hok
  have HN := Lib.hid (fun W (hW : Drv W B g L s) => next_any hW h)
  rw [hs] at HN
  have HD := Lib.hid hD
  clear hD h hp hc hs e1 hc0 hl hok hk2 hlk hTV hlA
  generalize s.next.1 = n0 at *
  generalize s.next.2.1 = c0 at *
  go_enter Tryd.func12, Tryd.ntmps12
  go_wp2_with fail
  refine (HN.out _ (by exact (HD.out.alloc _).alloc _)).mono ?_
  rintro e w1 ⟨rfl, hb1⟩
  have b4 := ((Blk.new w 38 #[.int .i64 c.kind, .int .i64 c.tx, .int .i64 c.attempt, .int .i64 c.stamp, .int .i64 c.op, .string c.key, .string c.value, .int .i64 c.mode, .bool c.yes]).alloc (.cells #[.int .i64 r.code, .int .i64 r.state, .string r.v, .bool r.h] 36)).below hb1 (by simp <;> omega)
  have k0 := b4.at_ 0 _ rfl
  have k1 := b4.at_ 1 _ rfl
  have k2 := b4.at_ 2 _ rfl
  have k3 := b4.at_ 3 _ rfl
  have k4 := b4.at_ 4 _ rfl
  have k5 := b4.at_ 5 _ rfl
  have k6 := b4.at_ 6 _ rfl
  have k7 := b4.at_ 7 _ rfl
  have k8 := b4.at_ 8 _ rfl
  have z4 := b4.lt
  have HB := Lib.hid ((((Below.refl w.heap.size w).alloc (Nat.le_refl _) (.cells #[.int .i64 c.kind, .int .i64 c.tx, .int .i64 c.attempt, .int .i64 c.stamp, .int .i64 c.op, .string c.key, .string c.value, .int .i64 c.mode, .bool c.yes] 38)).alloc (by simp) (.cells #[.int .i64 r.code, .int .i64 r.state, .string r.v, .bool r.h] 36)).trans (hb1.mono (by simp <;> omega)))
  have b5 := (Blk.new_ (w := w.alloc (.cells #[.int .i64 c.kind, .int .i64 c.tx, .int .i64 c.attempt, .int .i64 c.stamp, .int .i64 c.op, .string c.key, .string c.value, .int .i64 c.mode, .bool c.yes] 38)) (t := 36) (cs := #[.int .i64 r.code, .int .i64 r.state, .string r.v, .bool r.h]) (k := w.heap.size + 1) (by simp)).below hb1 (by simp <;> omega)
  have m0 := b5.at_ 0 _ rfl
  have m1 := b5.at_ 1 _ rfl
  have m2 := b5.at_ 2 _ rfl
  have m3 := b5.at_ 3 _ rfl
  have z5 := b5.lt
  have hD1 := ((HD.out.alloc _).alloc _).below hb1
  have e6 := hD1.c6
  rw [HPH.out] at e6
  have hlt1 := hD1.lt
  have e14 : w1.cell? ⟨g, 14, none⟩ = some (.slice (some ⟨gt, kk, none⟩) ((l0 :: []).length) L.lc) := by have := hD1.c14; rw [HL.out, hA] at this; exact this
  simp only [List.length_cons, List.length_nil] at e14
  have f14 := hD1.fz 14
  have hD2 := hD1.set14 (some ⟨gt, kk + 1, none⟩) ([]) (L.lc - 1) (fun _ => HOK.out)
  try simp only [List.length_nil, List.length_cons] at hD2
  have HD2 := Lib.hid hD2
  clear hD2
  have HD1 := Lib.hid hD1
  clear hb1 b4 b5 hD1
  go_wp2_with fail
  refine (behind_any (s := { s with left := [] }) (by exact HD2.out.alloc _) ha0 ha1 ha2).mono ?_
  rintro e w2 ⟨rfl, hP⟩
  have HP := Lib.hid hP
  clear hP
  go_wp2_with fail
  go_ret
  exact ⟨rfl, DPost.from_same (((Upd.of_below HB.out).at_g).alloc _) rfl rfl HP.out⟩

set_option maxHeartbeats 2000000 in
theorem told_fin3 (c : CmdS) (l0 : Int) (x : Int) (xs : List Int) (r : RepS) (hD : Drv w B g L s) (h : DInv s) (hc : cmdEq c s.next.2.1 = true) (hp : s.phase = 7) (hc0 : r.code = 0) (hl : s.left = l0 :: (x :: xs))  :
    Calls Tryd.prog 12 #[.pointer (some ⟨g, 0, none⟩), .agg #[.int .i64 c.kind, .int .i64 c.tx, .int .i64 c.attempt, .int .i64 c.stamp, .int .i64 c.op, .string c.key, .string c.value, .int .i64 c.mode, .bool c.yes], .agg #[.int .i64 r.code, .int .i64 r.state, .string r.v, .bool r.h]] w fun e w' => e = .returned (.bool true) ∧ DPost w B g L (s.told r) w' := by
  have e1 : s.told r = { s with left := (x :: xs) } := by unfold DS.told; rw [if_neg (by omega), if_pos hp, if_pos hc0, hl, List.tail_cons]; rfl
  rw [e1]
  have hq := fun d w => eqCmd d w c s.next.2.1
  rw [hc] at hq
  have hs : s.next.2.2 = true := by rw [next_some s h]; simp; omega
  have b0 : (r.code == 0) = true := by simpa using hc0
  have HPH := Lib.hid hp
  have HL := Lib.hid hl
  have ha0 := h.att0
  have ha1 := h.att1
  have ha2 := h.tries1
  obtain ⟨hlc, kk, hlk, hlA⟩ := hD.lef hp
  obtain ⟨gt, nt, ct, hTV, hA⟩ := hlA (by rw [hl]; simp)
  rw [hl] at hlc hlk
  simp only [List.length_cons, List.length_nil] at hlc
  have hk2 : s.touched.drop (kk + 1) = (x :: xs) := by
    have := congrArg List.tail hlk
    rw [List.tail_drop] at this
    exact this.symm
  have hok : LeftOk { L with lA := some ⟨gt, kk + 1, none⟩, lc := L.lc - 1 } { s with left := (x :: xs) } := ⟨by show ((x :: xs) : List Int).length ≤ L.lc - 1; simp only [List.length_cons, List.length_nil]; omega, kk + 1, hk2.symm, (fun _ => ⟨gt, nt, ct, hTV, rfl⟩)⟩
  have HOK := Lib.hid hok
  have HN := Lib.hid (fun W (hW : Drv W B g L s) => next_any hW h)
  rw [hs] at HN
  have HD := Lib.hid hD
  clear hD h hp hc hs e1 hc0 hl hok hk2 hlk hTV hlA
  generalize s.next.1 = n0 at *
  generalize s.next.2.1 = c0 at *
  go_enter Tryd.func12, Tryd.ntmps12
  go_wp2_with fail
  refine (HN.out _ (by exact (HD.out.alloc _).alloc _)).mono ?_
  rintro e w1 ⟨rfl, hb1⟩
  have b4 := ((Blk.new w 38 #[.int .i64 c.kind, .int .i64 c.tx, .int .i64 c.attempt, .int .i64 c.stamp, .int .i64 c.op, .string c.key, .string c.value, .int .i64 c.mode, .bool c.yes]).alloc (.cells #[.int .i64 r.code, .int .i64 r.state, .string r.v, .bool r.h] 36)).below hb1 (by simp <;> omega)
  have k0 := b4.at_ 0 _ rfl
  have k1 := b4.at_ 1 _ rfl
  have k2 := b4.at_ 2 _ rfl
  have k3 := b4.at_ 3 _ rfl
  have k4 := b4.at_ 4 _ rfl
  have k5 := b4.at_ 5 _ rfl
  have k6 := b4.at_ 6 _ rfl
  have k7 := b4.at_ 7 _ rfl
  have k8 := b4.at_ 8 _ rfl
  have z4 := b4.lt
  have HB := Lib.hid ((((Below.refl w.heap.size w).alloc (Nat.le_refl _) (.cells #[.int .i64 c.kind, .int .i64 c.tx, .int .i64 c.attempt, .int .i64 c.stamp, .int .i64 c.op, .string c.key, .string c.value, .int .i64 c.mode, .bool c.yes] 38)).alloc (by simp) (.cells #[.int .i64 r.code, .int .i64 r.state, .string r.v, .bool r.h] 36)).trans (hb1.mono (by simp <;> omega)))
  have b5 := (Blk.new_ (w := w.alloc (.cells #[.int .i64 c.kind, .int .i64 c.tx, .int .i64 c.attempt, .int .i64 c.stamp, .int .i64 c.op, .string c.key, .string c.value, .int .i64 c.mode, .bool c.yes] 38)) (t := 36) (cs := #[.int .i64 r.code, .int .i64 r.state, .string r.v, .bool r.h]) (k := w.heap.size + 1) (by simp)).below hb1 (by simp <;> omega)
  have m0 := b5.at_ 0 _ rfl
  have m1 := b5.at_ 1 _ rfl
  have m2 := b5.at_ 2 _ rfl
  have m3 := b5.at_ 3 _ rfl
  have z5 := b5.lt
  have hD1 := ((HD.out.alloc _).alloc _).below hb1
  have e6 := hD1.c6
  rw [HPH.out] at e6
  have hlt1 := hD1.lt
  have e14 : w1.cell? ⟨g, 14, none⟩ = some (.slice (some ⟨gt, kk, none⟩) ((l0 :: (x :: xs)).length) L.lc) := by have := hD1.c14; rw [HL.out, hA] at this; exact this
  simp only [List.length_cons, List.length_nil] at e14
  have f14 := hD1.fz 14
  have hD2 := hD1.set14 (some ⟨gt, kk + 1, none⟩) ((x :: xs)) (L.lc - 1) (fun _ => HOK.out)
  try simp only [List.length_nil, List.length_cons] at hD2
  have HD2 := Lib.hid hD2
  clear hD2
  have HD1 := Lib.hid hD1
  clear hb1 b4 b5 hD1
  go_wp2_with fail
  go_ret
  exact ⟨rfl, DPost.same (HD2.out.alloc _) (((Upd.of_below HB.out).at_g).alloc _) (.inr rfl) (.inr rfl)⟩

theorem told_any (r : RepS) (hD : Drv w B g L s) (h : DInv s) (hp : s.phase ≠ 8) (c : CmdS) (hc : cmdEq c s.next.2.1 = true) (hrv : r.v.size ≤ 281474976710656) (hG : Glob w) (hB : 3 ≤ B) :
    Calls Tryd.prog 12 #[.pointer (some ⟨g, 0, none⟩), .agg #[.int .i64 c.kind, .int .i64 c.tx, .int .i64 c.attempt, .int .i64 c.stamp, .int .i64 c.op, .string c.key, .string c.value, .int .i64 c.mode, .bool c.yes], .agg #[.int .i64 r.code, .int .i64 r.state, .string r.v, .bool r.h]] w fun e w' => e = .returned (.bool true) ∧ DPost w B g L (s.told r) w' := by
  have p0 := h.ph0
  have p8 := h.ph8
  by_cases hA : s.phase = 1 ∨ s.phase = 3 ∨ s.phase = 4
  · exact told_acc c r hD h hc hA hrv hG hB
  by_cases h7 : s.phase = 7
  · by_cases hc0 : r.code = 0
    · obtain ⟨l0, lr, hl⟩ := List.exists_cons_of_ne_nil (h.left1 h7)
      cases lr with
      | nil =>
        by_cases h1 : L.lc = 1
        · exact told_fin1 c l0 r hD h hc h7 hc0 hl h1
        · exact told_fin2 c l0 r hD h hc h7 hc0 hl h1
      | cons x xs => exact told_fin3 c l0 x xs r hD h hc h7 hc0 hl
    · exact told_fin_no c r hD h hc h7 hc0
  · exact told_home c r hD h hc (by omega)
end
end Go.Proofs.YtheecdjpbfkpdaaDoor
