/-
  Walks of the document's driver: Next (printed by gen_Rw7.py).
-/
import Derived.Test.YtheecdjpbfkpdaaDoorRw6
namespace Go.Proofs.YtheecdjpbfkpdaaDoor
open Go.RowKit
set_option maxRecDepth 100000
set_option linter.unusedSimpArgs false
set_option linter.unusedVariables false

structure NextCut (W w : World) (g : Nat) (M : RL) (t : RS) (cs : Array Value) (X : World) : Prop where
  b3 : Blk X w.heap.size 38 #[.int .i64 0, .int .i64 0, .int .i64 0, .int .i64 0, .int .i64 0, .string ⟨#[]⟩, .string ⟨#[]⟩, .int .i64 0, .bool false]
  b5 : Blk X (w.heap.size + 1) 38 cs
  ref : Ref W X g M t
  below : Below w.heap.size w X
  wW : W.heap.size ≤ w.heap.size
theorem below_put9 {w X : World} (h : Below w.heap.size w X) (u0 u1 u2 u3 u4 u5 u6 u7 u8 : Value) : Below w.heap.size w (((((((((X.setCell ⟨w.heap.size, 0, none⟩ u0).setCell ⟨w.heap.size, 1, none⟩ u1).setCell ⟨w.heap.size, 2, none⟩ u2).setCell ⟨w.heap.size, 3, none⟩ u3).setCell ⟨w.heap.size, 4, none⟩ u4).setCell ⟨w.heap.size, 5, none⟩ u5).setCell ⟨w.heap.size, 6, none⟩ u6).setCell ⟨w.heap.size, 7, none⟩ u7).setCell ⟨w.heap.size, 8, none⟩ u8) :=
  ((((((((h.setCell (Nat.le_refl _) _).setCell (Nat.le_refl _) _).setCell (Nat.le_refl _) _).setCell (Nat.le_refl _) _).setCell (Nat.le_refl _) _).setCell (Nat.le_refl _) _).setCell (Nat.le_refl _) _).setCell (Nat.le_refl _) _).setCell (Nat.le_refl _) _

theorem Ref.far {W w : World} {g : Nat} {M : RL} {t : RS} (h : Ref W w g M t) {p : Addr} {ty : TypeId} {cs : Array Value} (hb : Blk w p.block ty cs) (h1 : ty ≠ 55) (h2 : ty ≠ 52) (hB : W.heap.size ≤ p.block) (u : Value) : Ref W (w.setCell p u) g M t :=
  ⟨h.gB, h.bel.setCell hB u, h.blk.far (h.blk.ne_ hb (fun e => h1 e.symm)) u, h.scl, h.pcl, h.spl, h.pln, own_setCell h.res hb (fun e => h2 e.symm) u⟩
theorem Ref.drew {W w : World} {g : Nat} {M : RL} {t : RS} (h : Ref W w g M t) : Ref W w.drew g M t := h.drewN 1
theorem NextCut.put {W w X : World} {g : Nat} {M : RL} {t : RS} {cs : Array Value} (h : NextCut W w g M t cs X) (i : Nat) (u : Value) : NextCut W w g M t (cs.setIfInBounds i u) (X.setCell ⟨w.heap.size + 1, i, none⟩ u) :=
  ⟨h.b3.far (by dsimp only; omega) u, h.b5.set_ i u, h.ref.far (p := ⟨w.heap.size + 1, i, none⟩) h.b5 (by decide) (by decide) (by dsimp only; have := h.wW; omega) u, h.below.setCell (by dsimp only; omega) u, h.wW⟩
theorem NextCut.drew {W w X : World} {g : Nat} {M : RL} {t : RS} {cs : Array Value} (h : NextCut W w g M t cs X) : NextCut W w g M t cs X.drew := ⟨h.b3.drew, h.b5.drew, h.ref.drew, h.below.drew, h.wW⟩
theorem NextCut.drewN {W w X : World} {g : Nat} {M : RL} {t : RS} {cs : Array Value} (h : NextCut W w g M t cs X) (n : Nat) : NextCut W w g M t cs (X.drewN n) := ⟨h.b3.drewN n, h.b5.drewN n, h.ref.drewN n, below_drewN h.below n, h.wW⟩
theorem NextCut.alloc {W w X : World} {g : Nat} {M : RL} {t : RS} {cs : Array Value} (h : NextCut W w g M t cs X) (o : Obj) : NextCut W w g M t cs (X.alloc o) := ⟨h.b3.alloc o, h.b5.alloc o, h.ref.alloc o, h.below.alloc h.below.size o, h.wW⟩
theorem NextCut.to {W w X : World} {g : Nat} {M : RL} {t : RS} {cs cs' : Array Value} (h : NextCut W w g M t cs X) (e : cs = cs') : NextCut W w g M t cs' X := e ▸ h

section
variable {W w : World} {g : Nat} {M : RL} {t : RS}
set_option maxHeartbeats 4000000 in
theorem refNext_0 (hR : Ref W w g M t) (h16 : t.plan.length ≤ 16) (h7 : t.splits.length ≤ 7) (hx0 : 0 ≤ t.tx) (hx1 : t.tx ≤ 1048576) (ha0 : 0 ≤ t.asks) (ha8 : t.asks ≤ 8) (hi : 2 ≤ t.asks ∧ t.asks ≤ 4 → 0 ≤ t.i ∧ t.i < t.plan.length) (ht : t.asks = 7 → 0 ≤ t.told ∧ t.told < t.touched.length) (hz : t.asks = 0) :
    Calls Tryd.prog 15 #[.pointer (some ⟨g, 0, none⟩)] w fun e w' => e = .returned (.tuple #[.int .i64 t.next.1, .agg #[.int .i64 t.next.2.1.kind, .int .i64 t.next.2.1.tx, .int .i64 t.next.2.1.attempt, .int .i64 t.next.2.1.stamp, .int .i64 t.next.2.1.op, .string t.next.2.1.key, .string t.next.2.1.value, .int .i64 t.next.2.1.mode, .bool t.next.2.1.yes], .bool t.next.2.2]) ∧ Below w.heap.size w w' := by
  have HH := Lib.hid hz
  clear hz
  have c6 := hR.c6
  have hlt := hR.lt
  have HR := Lib.hid hR
  have HI := Lib.hid hi
  have HT := Lib.hid ht
  clear hR hi ht
  go_enter Tryd.func15, Tryd.ntmps15
  have hz := HH.out
  have he : t.next = (0, CmdS.zero, false) := by unfold RS.next; rw [if_pos hz]
  have HE := Lib.hid he
  rw [hz] at c6
  clear he hz
  go_wp2_with fail
  rw [HE.out]
  refine bodyPost_ret (v := .tuple #[.int .i64 0, .agg #[.int .i64 0, .int .i64 0, .int .i64 0, .int .i64 0, .int .i64 0, .string ⟨#[]⟩, .string ⟨#[]⟩, .int .i64 0, .bool false], .bool false]) (by simp [results, Tryd.results15, go_sem, *]) rfl ⟨rfl, ?_⟩
  exact (Below.refl _ _).alloc (Nat.le_refl _) _

set_option maxHeartbeats 4000000 in
theorem refNext_1 (hR : Ref W w g M t) (h16 : t.plan.length ≤ 16) (h7 : t.splits.length ≤ 7) (hx0 : 0 ≤ t.tx) (hx1 : t.tx ≤ 1048576) (ha0 : 0 ≤ t.asks) (ha8 : t.asks ≤ 8) (hi : 2 ≤ t.asks ∧ t.asks ≤ 4 → 0 ≤ t.i ∧ t.i < t.plan.length) (ht : t.asks = 7 → 0 ≤ t.told ∧ t.told < t.touched.length) (hz : ¬ t.asks = 0) (h1 : t.asks = 1) :
    Calls Tryd.prog 15 #[.pointer (some ⟨g, 0, none⟩)] w fun e w' => e = .returned (.tuple #[.int .i64 t.next.1, .agg #[.int .i64 t.next.2.1.kind, .int .i64 t.next.2.1.tx, .int .i64 t.next.2.1.attempt, .int .i64 t.next.2.1.stamp, .int .i64 t.next.2.1.op, .string t.next.2.1.key, .string t.next.2.1.value, .int .i64 t.next.2.1.mode, .bool t.next.2.1.yes], .bool t.next.2.2]) ∧ Below w.heap.size w w' := by
  have HH := Lib.hid h1
  clear h1
  have c6 := hR.c6
  have hlt := hR.lt
  have HR := Lib.hid hR
  have HI := Lib.hid hi
  have HT := Lib.hid ht
  clear hR hi ht
  go_enter Tryd.func15, Tryd.ntmps15
  have hzb : (t.asks == 0) = false := beq_eq_false_iff_ne.2 hz
  have c0 := HR.out.c0
  have c5 := HR.out.c5
  go_upto_region 3 with (fail)
  go_cut [5] (fun s5 X => s5 = .pointer (some ⟨w.heap.size + 1, 0, none⟩) ∧ NextCut W w g M t #[.int .i64 t.asks, .int .i64 t.tx, .int .i64 t.attempt, .int .i64 0, .int .i64 0, .string ⟨#[]⟩, .string ⟨#[]⟩, .int .i64 0, .bool false] X)
  case first =>
    go_region
    all_goals
      go_wp2_with fail
      go_meet
      exact ⟨rfl, ⟨((Blk.new w _ _).alloc _).drew, (Blk.new_ (by simp)).drew, ((HR.out.alloc _).alloc _).drewN 1, (((Below.refl _ _).alloc (Nat.le_refl _) _).alloc (by simp) _).drew, HR.out.bel.size⟩⟩
  case rest =>
  obtain ⟨rfl, hC⟩ := hcut
  obtain ⟨X, rfl⟩ : ∃ X : World, X = wc := ⟨_, rfl⟩
  clear c0 c5 c6 hlt
  have b3 := hC.b3
  have b5 := hC.b5
  have hbX := hC.below
  have hRX := hC.ref
  have HC := Lib.hid hC
  clear hC HR
  have r0 := hRX.c0
  have r1 := hRX.c1
  have r3 := hRX.c3
  have r6 := hRX.c6
  have hltX := hRX.lt
  have k3 := b3.lt
  have k5 := b5.lt
  have hne1 : ¬ g = w.heap.size := fun e => by have := (hRX.blk).ne_ b3 (by decide); exact this e
  have hne2 : ¬ g = w.heap.size + 1 := fun e => by have := (hRX.blk).ne_ b5 (by decide); exact this e
  have HR := Lib.hid hRX
  have B3 := Lib.hid b3
  have B5 := Lib.hid b5
  have HB := Lib.hid hbX
  clear b3 b5 hbX hRX
  go_upto_region 4 with (fail)
  go_cut [6] (fun s6 Y => s6 = .int .i64 t.home ∧ NextCut W w g M t #[.int .i64 t.asks, .int .i64 t.tx, .int .i64 t.attempt, .int .i64 0, .int .i64 0, .string ⟨#[]⟩, .string ⟨#[]⟩, .int .i64 0, .bool false] Y)
  case first =>
    have hw : IntKind.i64.wrap (↑t.splits.length + 1) = ↑t.splits.length + 1 := IntWalk.i64_in _ (by omega)
    have hp : (0 : Int) < (t.splits.length : Int) + 1 := by omega
    go_quiet (fail)
    go_wp2_with fail
    go_meet
    exact ⟨rfl, HC.out.drewN _⟩
  case rest =>
  obtain ⟨rfl, hC⟩ := hcut
  clear r0 r1 r3 r6 hltX k3 k5 hne1 hne2 HR B3 B5 HB HC
  obtain ⟨X, rfl⟩ : ∃ Y : World, Y = wc := ⟨_, rfl⟩
  have k3 := hC.b3.lt
  have k5 := hC.b5.lt
  have hltX := hC.ref.lt
  have r1 := hC.ref.c1
  have r6 := hC.ref.c6
  have hne1 : ¬ g = w.heap.size := fun e => by have := hC.ref.blk.ne_ hC.b3 (by decide); exact this e
  have hne2 : ¬ g = w.heap.size + 1 := fun e => by have := hC.ref.blk.ne_ hC.b5 (by decide); exact this e
  have HR := Lib.hid hC.ref
  have B3 := Lib.hid hC.b3
  have B5 := Lib.hid hC.b5
  have HB := Lib.hid hC.below
  have HC := Lib.hid hC
  clear hC
  have r11 := HR.out.c11
  have r12 := HR.out.c12
  have r7 := HR.out.c7
  have r4 := HR.out.c4
  have r8 := HR.out.c8
  have r9 := HR.out.c9
  have r3 := HR.out.c3
  have j0 := B5.out.at_ 0 _ rfl
  have g0 := B5.out.frozen 0
  have j1 := B5.out.at_ 1 _ rfl
  have g1 := B5.out.frozen 1
  have j2 := B5.out.at_ 2 _ rfl
  have g2 := B5.out.frozen 2
  have j3 := B5.out.at_ 3 _ rfl
  have g3 := B5.out.frozen 3
  have j4 := B5.out.at_ 4 _ rfl
  have g4 := B5.out.frozen 4
  have j5 := B5.out.at_ 5 _ rfl
  have g5 := B5.out.frozen 5
  have j6 := B5.out.at_ 6 _ rfl
  have g6 := B5.out.frozen 6
  have j7 := B5.out.at_ 7 _ rfl
  have g7 := B5.out.frozen 7
  have j8 := B5.out.at_ 8 _ rfl
  have g8 := B5.out.frozen 8
  have m0 := B3.out.at_ 0 _ rfl
  have n0 := B3.out.frozen 0
  have m1 := B3.out.at_ 1 _ rfl
  have n1 := B3.out.frozen 1
  have m2 := B3.out.at_ 2 _ rfl
  have n2 := B3.out.frozen 2
  have m3 := B3.out.at_ 3 _ rfl
  have n3 := B3.out.frozen 3
  have m4 := B3.out.at_ 4 _ rfl
  have n4 := B3.out.frozen 4
  have m5 := B3.out.at_ 5 _ rfl
  have n5 := B3.out.frozen 5
  have m6 := B3.out.at_ 6 _ rfl
  have n6 := B3.out.frozen 6
  have m7 := B3.out.at_ 7 _ rfl
  have n7 := B3.out.frozen 7
  have m8 := B3.out.at_ 8 _ rfl
  have n8 := B3.out.frozen 8
  have h1 := HH.out
  have he : t.next = (t.home, { t.cmd with stamp := t.stamp }, true) := by unfold RS.next; rw [if_neg hz, if_pos h1]
  have HE := Lib.hid he
  have H1 := Lib.hid h1
  rw [h1] at r6 j0
  clear he hz hzb h1
  go_wp2_with fail
  go_region
  all_goals
    go_wp2_with fail
    rw [HE.out]
    refine bodyPost_ret (v := .tuple #[.int .i64 t.home, .agg #[.int .i64 1, .int .i64 t.tx, .int .i64 t.attempt, .int .i64 t.stamp, .int .i64 0, .string ⟨#[]⟩, .string ⟨#[]⟩, .int .i64 0, .bool false], .bool true]) (by simp [results, Tryd.results15, go_sem, *]) rfl ⟨by rw [show t.cmd.kind = 1 from H1.out]; rfl, ?_⟩
    first | with_reducible exact (below_put9 (HB.out.setCell (p := ⟨w.heap.size + 1, 3, none⟩) (by dsimp only; omega) _) _ _ _ _ _ _ _ _ _).drew | with_reducible exact below_put9 (HB.out.setCell (p := ⟨w.heap.size + 1, 3, none⟩) (by dsimp only; omega) _) _ _ _ _ _ _ _ _ _

set_option maxHeartbeats 4000000 in
theorem refNext_7 (hR : Ref W w g M t) (h16 : t.plan.length ≤ 16) (h7 : t.splits.length ≤ 7) (hx0 : 0 ≤ t.tx) (hx1 : t.tx ≤ 1048576) (ha0 : 0 ≤ t.asks) (ha8 : t.asks ≤ 8) (hi : 2 ≤ t.asks ∧ t.asks ≤ 4 → 0 ≤ t.i ∧ t.i < t.plan.length) (ht : t.asks = 7 → 0 ≤ t.told ∧ t.told < t.touched.length) (hz : ¬ t.asks = 0) (h1 : ¬ t.asks = 1) (h7' : t.asks = 7) :
    Calls Tryd.prog 15 #[.pointer (some ⟨g, 0, none⟩)] w fun e w' => e = .returned (.tuple #[.int .i64 t.next.1, .agg #[.int .i64 t.next.2.1.kind, .int .i64 t.next.2.1.tx, .int .i64 t.next.2.1.attempt, .int .i64 t.next.2.1.stamp, .int .i64 t.next.2.1.op, .string t.next.2.1.key, .string t.next.2.1.value, .int .i64 t.next.2.1.mode, .bool t.next.2.1.yes], .bool t.next.2.2]) ∧ Below w.heap.size w w' := by
  have HH := Lib.hid h7'
  clear h7'
  have c6 := hR.c6
  have hlt := hR.lt
  have HR := Lib.hid hR
  have HI := Lib.hid hi
  have HT := Lib.hid ht
  clear hR hi ht
  go_enter Tryd.func15, Tryd.ntmps15
  have hzb : (t.asks == 0) = false := beq_eq_false_iff_ne.2 hz
  have c0 := HR.out.c0
  have c5 := HR.out.c5
  go_upto_region 3 with (fail)
  go_cut [5] (fun s5 X => s5 = .pointer (some ⟨w.heap.size + 1, 0, none⟩) ∧ NextCut W w g M t #[.int .i64 t.asks, .int .i64 t.tx, .int .i64 t.attempt, .int .i64 0, .int .i64 0, .string ⟨#[]⟩, .string ⟨#[]⟩, .int .i64 0, .bool false] X)
  case first =>
    go_region
    all_goals
      go_wp2_with fail
      go_meet
      exact ⟨rfl, ⟨((Blk.new w _ _).alloc _).drew, (Blk.new_ (by simp)).drew, ((HR.out.alloc _).alloc _).drewN 1, (((Below.refl _ _).alloc (Nat.le_refl _) _).alloc (by simp) _).drew, HR.out.bel.size⟩⟩
  case rest =>
  obtain ⟨rfl, hC⟩ := hcut
  obtain ⟨X, rfl⟩ : ∃ X : World, X = wc := ⟨_, rfl⟩
  clear c0 c5 c6 hlt
  have b3 := hC.b3
  have b5 := hC.b5
  have hbX := hC.below
  have hRX := hC.ref
  have HC := Lib.hid hC
  clear hC HR
  have r0 := hRX.c0
  have r1 := hRX.c1
  have r3 := hRX.c3
  have r6 := hRX.c6
  have hltX := hRX.lt
  have k3 := b3.lt
  have k5 := b5.lt
  have hne1 : ¬ g = w.heap.size := fun e => by have := (hRX.blk).ne_ b3 (by decide); exact this e
  have hne2 : ¬ g = w.heap.size + 1 := fun e => by have := (hRX.blk).ne_ b5 (by decide); exact this e
  have HR := Lib.hid hRX
  have B3 := Lib.hid b3
  have B5 := Lib.hid b5
  have HB := Lib.hid hbX
  clear b3 b5 hbX hRX
  go_upto_region 4 with (fail)
  go_cut [6] (fun s6 Y => s6 = .int .i64 t.home ∧ NextCut W w g M t #[.int .i64 t.asks, .int .i64 t.tx, .int .i64 t.attempt, .int .i64 0, .int .i64 0, .string ⟨#[]⟩, .string ⟨#[]⟩, .int .i64 0, .bool false] Y)
  case first =>
    have hw : IntKind.i64.wrap (↑t.splits.length + 1) = ↑t.splits.length + 1 := IntWalk.i64_in _ (by omega)
    have hp : (0 : Int) < (t.splits.length : Int) + 1 := by omega
    go_quiet (fail)
    go_wp2_with fail
    go_meet
    exact ⟨rfl, HC.out.drewN _⟩
  case rest =>
  obtain ⟨rfl, hC⟩ := hcut
  clear r0 r1 r3 r6 hltX k3 k5 hne1 hne2 HR B3 B5 HB HC
  obtain ⟨X, rfl⟩ : ∃ Y : World, Y = wc := ⟨_, rfl⟩
  have k3 := hC.b3.lt
  have k5 := hC.b5.lt
  have hltX := hC.ref.lt
  have r1 := hC.ref.c1
  have r6 := hC.ref.c6
  have hne1 : ¬ g = w.heap.size := fun e => by have := hC.ref.blk.ne_ hC.b3 (by decide); exact this e
  have hne2 : ¬ g = w.heap.size + 1 := fun e => by have := hC.ref.blk.ne_ hC.b5 (by decide); exact this e
  have HR := Lib.hid hC.ref
  have B3 := Lib.hid hC.b3
  have B5 := Lib.hid hC.b5
  have HB := Lib.hid hC.below
  have HC := Lib.hid hC
  clear hC
  have r11 := HR.out.c11
  have r12 := HR.out.c12
  have r7 := HR.out.c7
  have r4 := HR.out.c4
  have r8 := HR.out.c8
  have r9 := HR.out.c9
  have r3 := HR.out.c3
  have j0 := B5.out.at_ 0 _ rfl
  have g0 := B5.out.frozen 0
  have j1 := B5.out.at_ 1 _ rfl
  have g1 := B5.out.frozen 1
  have j2 := B5.out.at_ 2 _ rfl
  have g2 := B5.out.frozen 2
  have j3 := B5.out.at_ 3 _ rfl
  have g3 := B5.out.frozen 3
  have j4 := B5.out.at_ 4 _ rfl
  have g4 := B5.out.frozen 4
  have j5 := B5.out.at_ 5 _ rfl
  have g5 := B5.out.frozen 5
  have j6 := B5.out.at_ 6 _ rfl
  have g6 := B5.out.frozen 6
  have j7 := B5.out.at_ 7 _ rfl
  have g7 := B5.out.frozen 7
  have j8 := B5.out.at_ 8 _ rfl
  have g8 := B5.out.frozen 8
  have m0 := B3.out.at_ 0 _ rfl
  have n0 := B3.out.frozen 0
  have m1 := B3.out.at_ 1 _ rfl
  have n1 := B3.out.frozen 1
  have m2 := B3.out.at_ 2 _ rfl
  have n2 := B3.out.frozen 2
  have m3 := B3.out.at_ 3 _ rfl
  have n3 := B3.out.frozen 3
  have m4 := B3.out.at_ 4 _ rfl
  have n4 := B3.out.frozen 4
  have m5 := B3.out.at_ 5 _ rfl
  have n5 := B3.out.frozen 5
  have m6 := B3.out.at_ 6 _ rfl
  have n6 := B3.out.frozen 6
  have m7 := B3.out.at_ 7 _ rfl
  have n7 := B3.out.frozen 7
  have m8 := B3.out.at_ 8 _ rfl
  have n8 := B3.out.frozen 8
  have h7' := HH.out
  obtain ⟨ht0, ht1⟩ := HT.out h7'
  obtain ⟨n, hn⟩ := Int.eq_ofNat_of_zero_le ht0
  obtain ⟨x, hx⟩ : ∃ x, x = t.touched.getD t.told.toNat 0 := ⟨_, rfl⟩
  have hnl : n < t.touched.length := by omega
  have hxx : (intRow t.touched)[n]? = some (.int .i64 x) := by
    unfold intRow
    rw [List.getElem?_map, hx, hn, Int.toNat_natCast, List.getD_eq_getElem?_getD, List.getElem?_eq_getElem hnl]
    rfl
  have he : t.next = (x, { t.cmd with yes := t.fin == 2, op := x }, true) := by
    rw [hx]; unfold RS.next; rw [if_neg hz, if_neg h1, if_pos h7']
  have HE := Lib.hid he
  have HXX := Lib.hid hxx
  have HTN := Lib.hid hn
  have H7 := Lib.hid h7'
  rw [h7'] at r6 j0
  rw [hn] at r12
  have HC7 : Hid (NextCut W w g M t #[.int .i64 7, .int .i64 t.tx, .int .i64 t.attempt, .int .i64 0, .int .i64 0, .string ⟨#[]⟩, .string ⟨#[]⟩, .int .i64 0, .bool false] X) := Lib.hid (by have := HC.out; rw [h7'] at this; exact this)
  have hnI : (n : Int) < (t.touched.length : Int) := by omega
  clear he hz hzb h1 hx hxx ht0 ht1 h7' HC hn
  go_upto_region 8 with (fail)
  go_cut [] (fun Y => NextCut W w g M t #[.int .i64 7, .int .i64 t.tx, .int .i64 t.attempt, .int .i64 0, .int .i64 0, .string ⟨#[]⟩, .string ⟨#[]⟩, .int .i64 0, .bool (t.fin == 2)] Y)
  case first =>
    go_wp2_with fail
    go_meet
    exact (HC7.out.put 8 _)
  case rest =>
  clear r3 r4 r6 r7 r8 r9 r11 r12 k3 k5 hltX hne1 hne2 HC7 HR HB B3 B5 r1 j0 g0 m0 n0 j1 g1 m1 n1 j2 g2 m2 n2 j3 g3 m3 n3 j4 g4 m4 n4 j5 g5 m5 n5 j6 g6 m6 n6 j7 g7 m7 n7 j8 g8 m8 n8
  obtain ⟨Y, rfl⟩ : ∃ Y : World, Y = wc := ⟨_, rfl⟩
  have HC := Lib.hid hcut
  have r12 := hcut.ref.c12
  have hltY := hcut.ref.lt
  have k5 := hcut.b5.lt
  have g4 := hcut.b5.frozen 4
  have j4 := hcut.b5.at_ 4 _ rfl
  clear hcut
  rw [HTN.out] at r12
  go_upto_region 9 with (fail)
  go_cut [] (fun Z => NextCut W w g M t #[.int .i64 7, .int .i64 t.tx, .int .i64 t.attempt, .int .i64 0, .int .i64 x, .string ⟨#[]⟩, .string ⟨#[]⟩, .int .i64 0, .bool (t.fin == 2)] Z)
  case first =>
    go_region_with
      (go_at_call 34; refine (refTouched_any (by exact HC.out.ref.drewN 1) h16 h7).mono ?_; rintro e w1 ⟨⟨v, rfl, ho⟩, hb⟩; obtain ⟨A', c', hv, hnc, _, hg⟩ := own_slice_form ho; obtain ⟨gt, rfl⟩ := hg (by omega); subst hv; have cx := own_cell ho n _ HXX.out; have hR1 := HC.out.drew.ref.below hb; have c12' := hR1.c12; rw [HTN.out] at c12'; have b5' := HC.out.drew.b5.below hb k5; have p4 := b5'.at_ 4 _ rfl; have fp4 := b5'.frozen 4; have hlt1 := hR1.lt; have hltc := World.block_lt_of_cell? _ _ cx; have HC1 : Hid (NextCut W w g M t #[.int .i64 7, .int .i64 t.tx, .int .i64 t.attempt, .int .i64 0, .int .i64 0, .string ⟨#[]⟩, .string ⟨#[]⟩, .int .i64 0, .bool (t.fin == 2)] w1) := Lib.hid ⟨HC.out.drew.b3.below hb HC.out.drew.b3.lt, b5', hR1, HC.out.drew.below.trans (hb.mono HC.out.drew.below.size), HC.out.wW⟩; clear hR1 ho hb b5' hnc)
    all_goals
      go_wp2_with fail
      go_meet
      exact HC1.out.put 4 _
  case rest =>
  clear r12 hltY k5 g4 j4 HC
  obtain ⟨Z, rfl⟩ : ∃ Z : World, Z = wc := ⟨_, rfl⟩
  have HC := Lib.hid hcut
  have k5 := hcut.b5.lt
  have k3 := hcut.b3.lt
  have j0 := hcut.b5.at_ 0 _ rfl
  have g0 := hcut.b5.frozen 0
  have j1 := hcut.b5.at_ 1 _ rfl
  have g1 := hcut.b5.frozen 1
  have j2 := hcut.b5.at_ 2 _ rfl
  have g2 := hcut.b5.frozen 2
  have j3 := hcut.b5.at_ 3 _ rfl
  have g3 := hcut.b5.frozen 3
  have j4 := hcut.b5.at_ 4 _ rfl
  have g4 := hcut.b5.frozen 4
  have j5 := hcut.b5.at_ 5 _ rfl
  have g5 := hcut.b5.frozen 5
  have j6 := hcut.b5.at_ 6 _ rfl
  have g6 := hcut.b5.frozen 6
  have j7 := hcut.b5.at_ 7 _ rfl
  have g7 := hcut.b5.frozen 7
  have j8 := hcut.b5.at_ 8 _ rfl
  have g8 := hcut.b5.frozen 8
  have m0 := hcut.b3.at_ 0 _ rfl
  have n0 := hcut.b3.frozen 0
  have m1 := hcut.b3.at_ 1 _ rfl
  have n1 := hcut.b3.frozen 1
  have m2 := hcut.b3.at_ 2 _ rfl
  have n2 := hcut.b3.frozen 2
  have m3 := hcut.b3.at_ 3 _ rfl
  have n3 := hcut.b3.frozen 3
  have m4 := hcut.b3.at_ 4 _ rfl
  have n4 := hcut.b3.frozen 4
  have m5 := hcut.b3.at_ 5 _ rfl
  have n5 := hcut.b3.frozen 5
  have m6 := hcut.b3.at_ 6 _ rfl
  have n6 := hcut.b3.frozen 6
  have m7 := hcut.b3.at_ 7 _ rfl
  have n7 := hcut.b3.frozen 7
  have m8 := hcut.b3.at_ 8 _ rfl
  have n8 := hcut.b3.frozen 8
  have HB := Lib.hid hcut.below
  clear hcut
  go_wp2_with fail
  go_region
  all_goals
    go_wp2_with fail
    rw [HE.out]
    refine bodyPost_ret (v := .tuple #[.int .i64 x, .agg #[.int .i64 7, .int .i64 t.tx, .int .i64 t.attempt, .int .i64 0, .int .i64 x, .string ⟨#[]⟩, .string ⟨#[]⟩, .int .i64 0, .bool (t.fin == 2)], .bool true]) (by simp [results, Tryd.results15, go_sem, *]) rfl ⟨by rw [show t.cmd.kind = 7 from H7.out]; rfl, ?_⟩
    first | with_reducible exact (below_put9 (HB.out) _ _ _ _ _ _ _ _ _).drew | with_reducible exact below_put9 (HB.out) _ _ _ _ _ _ _ _ _

set_option maxHeartbeats 4000000 in
theorem refNext_o (hR : Ref W w g M t) (h16 : t.plan.length ≤ 16) (h7 : t.splits.length ≤ 7) (hx0 : 0 ≤ t.tx) (hx1 : t.tx ≤ 1048576) (ha0 : 0 ≤ t.asks) (ha8 : t.asks ≤ 8) (hi : 2 ≤ t.asks ∧ t.asks ≤ 4 → 0 ≤ t.i ∧ t.i < t.plan.length) (ht : t.asks = 7 → 0 ≤ t.told ∧ t.told < t.touched.length) (hz : ¬ t.asks = 0) (h1 : ¬ t.asks = 1) (h7' : ¬ t.asks = 7) (h24 : t.asks < 2 ∨ 4 < t.asks) :
    Calls Tryd.prog 15 #[.pointer (some ⟨g, 0, none⟩)] w fun e w' => e = .returned (.tuple #[.int .i64 t.next.1, .agg #[.int .i64 t.next.2.1.kind, .int .i64 t.next.2.1.tx, .int .i64 t.next.2.1.attempt, .int .i64 t.next.2.1.stamp, .int .i64 t.next.2.1.op, .string t.next.2.1.key, .string t.next.2.1.value, .int .i64 t.next.2.1.mode, .bool t.next.2.1.yes], .bool t.next.2.2]) ∧ Below w.heap.size w w' := by
  have c6 := hR.c6
  have hlt := hR.lt
  have HR := Lib.hid hR
  have HI := Lib.hid hi
  have HT := Lib.hid ht
  clear hR hi ht
  go_enter Tryd.func15, Tryd.ntmps15
  have hzb : (t.asks == 0) = false := beq_eq_false_iff_ne.2 hz
  have c0 := HR.out.c0
  have c5 := HR.out.c5
  go_upto_region 3 with (fail)
  go_cut [5] (fun s5 X => s5 = .pointer (some ⟨w.heap.size + 1, 0, none⟩) ∧ NextCut W w g M t #[.int .i64 t.asks, .int .i64 t.tx, .int .i64 t.attempt, .int .i64 0, .int .i64 0, .string ⟨#[]⟩, .string ⟨#[]⟩, .int .i64 0, .bool false] X)
  case first =>
    go_region
    all_goals
      go_wp2_with fail
      go_meet
      exact ⟨rfl, ⟨((Blk.new w _ _).alloc _).drew, (Blk.new_ (by simp)).drew, ((HR.out.alloc _).alloc _).drewN 1, (((Below.refl _ _).alloc (Nat.le_refl _) _).alloc (by simp) _).drew, HR.out.bel.size⟩⟩
  case rest =>
  obtain ⟨rfl, hC⟩ := hcut
  obtain ⟨X, rfl⟩ : ∃ X : World, X = wc := ⟨_, rfl⟩
  clear c0 c5 c6 hlt
  have b3 := hC.b3
  have b5 := hC.b5
  have hbX := hC.below
  have hRX := hC.ref
  have HC := Lib.hid hC
  clear hC HR
  have r0 := hRX.c0
  have r1 := hRX.c1
  have r3 := hRX.c3
  have r6 := hRX.c6
  have hltX := hRX.lt
  have k3 := b3.lt
  have k5 := b5.lt
  have hne1 : ¬ g = w.heap.size := fun e => by have := (hRX.blk).ne_ b3 (by decide); exact this e
  have hne2 : ¬ g = w.heap.size + 1 := fun e => by have := (hRX.blk).ne_ b5 (by decide); exact this e
  have HR := Lib.hid hRX
  have B3 := Lib.hid b3
  have B5 := Lib.hid b5
  have HB := Lib.hid hbX
  clear b3 b5 hbX hRX
  go_upto_region 4 with (fail)
  go_cut [6] (fun s6 Y => s6 = .int .i64 t.home ∧ NextCut W w g M t #[.int .i64 t.asks, .int .i64 t.tx, .int .i64 t.attempt, .int .i64 0, .int .i64 0, .string ⟨#[]⟩, .string ⟨#[]⟩, .int .i64 0, .bool false] Y)
  case first =>
    have hw : IntKind.i64.wrap (↑t.splits.length + 1) = ↑t.splits.length + 1 := IntWalk.i64_in _ (by omega)
    have hp : (0 : Int) < (t.splits.length : Int) + 1 := by omega
    go_quiet (fail)
    go_wp2_with fail
    go_meet
    exact ⟨rfl, HC.out.drewN _⟩
  case rest =>
  obtain ⟨rfl, hC⟩ := hcut
  clear r0 r1 r3 r6 hltX k3 k5 hne1 hne2 HR B3 B5 HB HC
  obtain ⟨X, rfl⟩ : ∃ Y : World, Y = wc := ⟨_, rfl⟩
  have k3 := hC.b3.lt
  have k5 := hC.b5.lt
  have hltX := hC.ref.lt
  have r1 := hC.ref.c1
  have r6 := hC.ref.c6
  have hne1 : ¬ g = w.heap.size := fun e => by have := hC.ref.blk.ne_ hC.b3 (by decide); exact this e
  have hne2 : ¬ g = w.heap.size + 1 := fun e => by have := hC.ref.blk.ne_ hC.b5 (by decide); exact this e
  have HR := Lib.hid hC.ref
  have B3 := Lib.hid hC.b3
  have B5 := Lib.hid hC.b5
  have HB := Lib.hid hC.below
  have HC := Lib.hid hC
  clear hC
  have r11 := HR.out.c11
  have r12 := HR.out.c12
  have r7 := HR.out.c7
  have r4 := HR.out.c4
  have r8 := HR.out.c8
  have r9 := HR.out.c9
  have r3 := HR.out.c3
  have j0 := B5.out.at_ 0 _ rfl
  have g0 := B5.out.frozen 0
  have j1 := B5.out.at_ 1 _ rfl
  have g1 := B5.out.frozen 1
  have j2 := B5.out.at_ 2 _ rfl
  have g2 := B5.out.frozen 2
  have j3 := B5.out.at_ 3 _ rfl
  have g3 := B5.out.frozen 3
  have j4 := B5.out.at_ 4 _ rfl
  have g4 := B5.out.frozen 4
  have j5 := B5.out.at_ 5 _ rfl
  have g5 := B5.out.frozen 5
  have j6 := B5.out.at_ 6 _ rfl
  have g6 := B5.out.frozen 6
  have j7 := B5.out.at_ 7 _ rfl
  have g7 := B5.out.frozen 7
  have j8 := B5.out.at_ 8 _ rfl
  have g8 := B5.out.frozen 8
  have m0 := B3.out.at_ 0 _ rfl
  have n0 := B3.out.frozen 0
  have m1 := B3.out.at_ 1 _ rfl
  have n1 := B3.out.frozen 1
  have m2 := B3.out.at_ 2 _ rfl
  have n2 := B3.out.frozen 2
  have m3 := B3.out.at_ 3 _ rfl
  have n3 := B3.out.frozen 3
  have m4 := B3.out.at_ 4 _ rfl
  have n4 := B3.out.frozen 4
  have m5 := B3.out.at_ 5 _ rfl
  have n5 := B3.out.frozen 5
  have m6 := B3.out.at_ 6 _ rfl
  have n6 := B3.out.frozen 6
  have m7 := B3.out.at_ 7 _ rfl
  have n7 := B3.out.frozen 7
  have m8 := B3.out.at_ 8 _ rfl
  have n8 := B3.out.frozen 8
  have h1b : (t.asks == 1) = false := beq_eq_false_iff_ne.2 h1
  have h7b : (t.asks == 7) = false := beq_eq_false_iff_ne.2 h7'
  have hge : 4 < t.asks := by omega
  have hnl : ¬ t.asks < 2 := by omega
  have he : t.next = (t.home, t.cmd, true) := by unfold RS.next; rw [if_neg hz, if_neg h1, if_neg h7', if_pos h24]
  have HE := Lib.hid he
  clear he hz hzb h1 h7' h24
  go_wp2_with fail
  go_region
  all_goals
    go_wp2_with fail
    rw [HE.out]
    refine bodyPost_ret (v := .tuple #[.int .i64 t.home, .agg #[.int .i64 t.asks, .int .i64 t.tx, .int .i64 t.attempt, .int .i64 0, .int .i64 0, .string ⟨#[]⟩, .string ⟨#[]⟩, .int .i64 0, .bool false], .bool true]) (by simp [results, Tryd.results15, go_sem, *]) rfl ⟨rfl, ?_⟩
    first | with_reducible exact (below_put9 (HB.out) _ _ _ _ _ _ _ _ _).drew | with_reducible exact below_put9 (HB.out) _ _ _ _ _ _ _ _ _

set_option maxHeartbeats 4000000 in
theorem refNext_2 (hR : Ref W w g M t) (h16 : t.plan.length ≤ 16) (h7 : t.splits.length ≤ 7) (hx0 : 0 ≤ t.tx) (hx1 : t.tx ≤ 1048576) (ha0 : 0 ≤ t.asks) (ha8 : t.asks ≤ 8) (hi : 2 ≤ t.asks ∧ t.asks ≤ 4 → 0 ≤ t.i ∧ t.i < t.plan.length) (ht : t.asks = 7 → 0 ≤ t.told ∧ t.told < t.touched.length) (hz : ¬ t.asks = 0) (h1 : ¬ t.asks = 1) (h7' : ¬ t.asks = 7) (h24 : ¬ (t.asks < 2 ∨ 4 < t.asks)) (hk : t.asks = 2) :
    Calls Tryd.prog 15 #[.pointer (some ⟨g, 0, none⟩)] w fun e w' => e = .returned (.tuple #[.int .i64 t.next.1, .agg #[.int .i64 t.next.2.1.kind, .int .i64 t.next.2.1.tx, .int .i64 t.next.2.1.attempt, .int .i64 t.next.2.1.stamp, .int .i64 t.next.2.1.op, .string t.next.2.1.key, .string t.next.2.1.value, .int .i64 t.next.2.1.mode, .bool t.next.2.1.yes], .bool t.next.2.2]) ∧ Below w.heap.size w w' := by
  have HH := Lib.hid hk
  clear hk
  have c6 := hR.c6
  have hlt := hR.lt
  have HR := Lib.hid hR
  have HI := Lib.hid hi
  have HT := Lib.hid ht
  clear hR hi ht
  go_enter Tryd.func15, Tryd.ntmps15
  have hzb : (t.asks == 0) = false := beq_eq_false_iff_ne.2 hz
  have c0 := HR.out.c0
  have c5 := HR.out.c5
  go_upto_region 3 with (fail)
  go_cut [5] (fun s5 X => s5 = .pointer (some ⟨w.heap.size + 1, 0, none⟩) ∧ NextCut W w g M t #[.int .i64 t.asks, .int .i64 t.tx, .int .i64 t.attempt, .int .i64 0, .int .i64 0, .string ⟨#[]⟩, .string ⟨#[]⟩, .int .i64 0, .bool false] X)
  case first =>
    go_region
    all_goals
      go_wp2_with fail
      go_meet
      exact ⟨rfl, ⟨((Blk.new w _ _).alloc _).drew, (Blk.new_ (by simp)).drew, ((HR.out.alloc _).alloc _).drewN 1, (((Below.refl _ _).alloc (Nat.le_refl _) _).alloc (by simp) _).drew, HR.out.bel.size⟩⟩
  case rest =>
  obtain ⟨rfl, hC⟩ := hcut
  obtain ⟨X, rfl⟩ : ∃ X : World, X = wc := ⟨_, rfl⟩
  clear c0 c5 c6 hlt
  have b3 := hC.b3
  have b5 := hC.b5
  have hbX := hC.below
  have hRX := hC.ref
  have HC := Lib.hid hC
  clear hC HR
  have r0 := hRX.c0
  have r1 := hRX.c1
  have r3 := hRX.c3
  have r6 := hRX.c6
  have hltX := hRX.lt
  have k3 := b3.lt
  have k5 := b5.lt
  have hne1 : ¬ g = w.heap.size := fun e => by have := (hRX.blk).ne_ b3 (by decide); exact this e
  have hne2 : ¬ g = w.heap.size + 1 := fun e => by have := (hRX.blk).ne_ b5 (by decide); exact this e
  have HR := Lib.hid hRX
  have B3 := Lib.hid b3
  have B5 := Lib.hid b5
  have HB := Lib.hid hbX
  clear b3 b5 hbX hRX
  go_upto_region 4 with (fail)
  go_cut [6] (fun s6 Y => s6 = .int .i64 t.home ∧ NextCut W w g M t #[.int .i64 t.asks, .int .i64 t.tx, .int .i64 t.attempt, .int .i64 0, .int .i64 0, .string ⟨#[]⟩, .string ⟨#[]⟩, .int .i64 0, .bool false] Y)
  case first =>
    have hw : IntKind.i64.wrap (↑t.splits.length + 1) = ↑t.splits.length + 1 := IntWalk.i64_in _ (by omega)
    have hp : (0 : Int) < (t.splits.length : Int) + 1 := by omega
    go_quiet (fail)
    go_wp2_with fail
    go_meet
    exact ⟨rfl, HC.out.drewN _⟩
  case rest =>
  obtain ⟨rfl, hC⟩ := hcut
  clear r0 r1 r3 r6 hltX k3 k5 hne1 hne2 HR B3 B5 HB HC
  obtain ⟨X, rfl⟩ : ∃ Y : World, Y = wc := ⟨_, rfl⟩
  have k3 := hC.b3.lt
  have k5 := hC.b5.lt
  have hltX := hC.ref.lt
  have r1 := hC.ref.c1
  have r6 := hC.ref.c6
  have hne1 : ¬ g = w.heap.size := fun e => by have := hC.ref.blk.ne_ hC.b3 (by decide); exact this e
  have hne2 : ¬ g = w.heap.size + 1 := fun e => by have := hC.ref.blk.ne_ hC.b5 (by decide); exact this e
  have HR := Lib.hid hC.ref
  have B3 := Lib.hid hC.b3
  have B5 := Lib.hid hC.b5
  have HB := Lib.hid hC.below
  have HC := Lib.hid hC
  clear hC
  have r11 := HR.out.c11
  have r12 := HR.out.c12
  have r7 := HR.out.c7
  have r4 := HR.out.c4
  have r8 := HR.out.c8
  have r9 := HR.out.c9
  have r3 := HR.out.c3
  have j0 := B5.out.at_ 0 _ rfl
  have g0 := B5.out.frozen 0
  have j1 := B5.out.at_ 1 _ rfl
  have g1 := B5.out.frozen 1
  have j2 := B5.out.at_ 2 _ rfl
  have g2 := B5.out.frozen 2
  have j3 := B5.out.at_ 3 _ rfl
  have g3 := B5.out.frozen 3
  have j4 := B5.out.at_ 4 _ rfl
  have g4 := B5.out.frozen 4
  have j5 := B5.out.at_ 5 _ rfl
  have g5 := B5.out.frozen 5
  have j6 := B5.out.at_ 6 _ rfl
  have g6 := B5.out.frozen 6
  have j7 := B5.out.at_ 7 _ rfl
  have g7 := B5.out.frozen 7
  have j8 := B5.out.at_ 8 _ rfl
  have g8 := B5.out.frozen 8
  have m0 := B3.out.at_ 0 _ rfl
  have n0 := B3.out.frozen 0
  have m1 := B3.out.at_ 1 _ rfl
  have n1 := B3.out.frozen 1
  have m2 := B3.out.at_ 2 _ rfl
  have n2 := B3.out.frozen 2
  have m3 := B3.out.at_ 3 _ rfl
  have n3 := B3.out.frozen 3
  have m4 := B3.out.at_ 4 _ rfl
  have n4 := B3.out.frozen 4
  have m5 := B3.out.at_ 5 _ rfl
  have n5 := B3.out.frozen 5
  have m6 := B3.out.at_ 6 _ rfl
  have n6 := B3.out.frozen 6
  have m7 := B3.out.at_ 7 _ rfl
  have n7 := B3.out.frozen 7
  have m8 := B3.out.at_ 8 _ rfl
  have n8 := B3.out.frozen 8
  have h1b : (t.asks == 1) = false := beq_eq_false_iff_ne.2 h1
  have h7b : (t.asks == 7) = false := beq_eq_false_iff_ne.2 h7'
  obtain ⟨hi0, hi1⟩ := HI.out (by omega)
  obtain ⟨n, hn⟩ := Int.eq_ofNat_of_zero_le hi0
  have hnl : n < t.plan.length := by omega
  have hop : opD t.plan n = t.op := by unfold RS.op; rw [hn, Int.toNat_natCast]
  obtain ⟨ad, hA, q0, q1, q2, q3⟩ := HR.out.plnRow.op n _ (opD_at hnl)
  rw [hop] at q0 q1 q2 q3
  rw [hA] at r4
  rw [hn] at r7
  have hbl := World.block_lt_of_cell? _ _ q0
  have hnI : (n : Int) < (t.plan.length : Int) := by omega
  have hn0 : (0 : Int) ≤ (n : Int) := by omega
  have hnx : t.next = (((shardOf t.splits t.op.key : Nat) : Int), { t.cmd with key := t.op.key, op := 3 * t.i + t.asks - 2, mode := (if t.asks = 2 then (if t.op.kind = 1 then 1 else 2) else 0), value := (if t.asks = 4 then t.write.v else ⟨#[]⟩), yes := (if t.asks = 4 then t.write.h else false) }, true) := by
    unfold RS.next; rw [if_neg hz, if_neg h1, if_neg h7', if_neg h24]
  have HNX := Lib.hid hnx
  have HTI := Lib.hid hn
  clear hnx hzb h1 h7' h24 hz h1b h7b hA hop hi0 hi1 hn HI HT
  have hk := HH.out
  rw [hk] at r6 j0
  have HCK : Hid (NextCut W w g M t #[.int .i64 2, .int .i64 t.tx, .int .i64 t.attempt, .int .i64 0, .int .i64 0, .string ⟨#[]⟩, .string ⟨#[]⟩, .int .i64 0, .bool false] X) := Lib.hid (by have := HC.out; rw [hk] at this; exact this)
  have HK := Lib.hid hk
  clear hk HC
  go_upto_region 13 with (fail)
  go_cut [7] (fun s7 Y => s7 = .pointer (some ⟨X.heap.size, 0, none⟩) ∧ NextCut W w g M t #[.int .i64 2, .int .i64 t.tx, .int .i64 t.attempt, .int .i64 0, .int .i64 0, .string ⟨#[]⟩, .string ⟨#[]⟩, .int .i64 0, .bool false] Y ∧ Blk Y X.heap.size 60 #[.int .i64 t.op.kind, .string t.op.key, .string t.op.value, .int .i64 t.op.n])
  case first =>
    go_region
    all_goals
      go_wp2_with fail
      go_meet
      exact ⟨rfl, (HCK.out.alloc _).drew, ((Blk.new X _ _).drew)⟩
  case rest =>
  obtain ⟨rfl, hC2, bo⟩ := hcut
  clear r1 r3 r4 r6 r7 r8 r9 r11 r12 q0 q1 q2 q3 hbl k3 k5 hltX hne1 hne2 HR HB B3 B5 HCK j0 g0 m0 n0 j1 g1 m1 n1 j2 g2 m2 n2 j3 g3 m3 n3 j4 g4 m4 n4 j5 g5 m5 n5 j6 g6 m6 n6 j7 g7 m7 n7 j8 g8 m8 n8
  obtain ⟨Y, rfl⟩ : ∃ Y : World, Y = wc := ⟨_, rfl⟩
  generalize X.heap.size = bo_ at *
  have r6 := hC2.ref.c6
  rw [HK.out] at r6
  have r7 := hC2.ref.c7
  rw [HTI.out] at r7
  have hltY := hC2.ref.lt
  have k5 := hC2.b5.lt
  have ko := bo.lt
  have g4 := hC2.b5.frozen 4
  have j4 := hC2.b5.at_ 4 _ rfl
  have g5 := hC2.b5.frozen 5
  have j5 := hC2.b5.at_ 5 _ rfl
  have o1 := bo.at_ 1 _ rfl
  have hne := hC2.ref.blk.ne_ hC2.b5 (by decide)
  have hno := bo.ne_ hC2.b5 (by decide)
  have hne' := hne.symm
  have HC := Lib.hid hC2
  have HO := Lib.hid bo
  clear hC2 bo
  go_upto_region 15 with (fail)
  go_cut [] (fun Z => NextCut W w g M t #[.int .i64 2, .int .i64 t.tx, .int .i64 t.attempt, .int .i64 0, .int .i64 (3 * (n : Int)), .string t.op.key, .string ⟨#[]⟩, .int .i64 0, .bool false] Z ∧ Blk Z bo_ 60 #[.int .i64 t.op.kind, .string t.op.key, .string t.op.value, .int .i64 t.op.n])
  case first =>
    go_wp2_with fail
    go_region
    all_goals
      go_wp2_with fail
      go_meet
      exact ⟨((HC.out.put 5 _).put 4 _).drew, ((HO.out.far hno _).far hno _).drew⟩
  case rest =>
  obtain ⟨hC2, bo⟩ := hcut
  clear r6 r7 hltY k5 ko g4 j4 g5 j5 o1 hne HC HO
  obtain ⟨Z, rfl⟩ : ∃ Z : World, Z = wc := ⟨_, rfl⟩
  have r6 := hC2.ref.c6
  rw [HK.out] at r6
  have r8 := hC2.ref.c8
  have r9 := hC2.ref.c9
  have hltZ := hC2.ref.lt
  have k5 := hC2.b5.lt
  have ko := bo.lt
  have g6 := hC2.b5.frozen 6
  have j6 := hC2.b5.at_ 6 _ rfl
  have g7 := hC2.b5.frozen 7
  have j7 := hC2.b5.at_ 7 _ rfl
  have g8 := hC2.b5.frozen 8
  have j8 := hC2.b5.at_ 8 _ rfl
  have o0 := bo.at_ 0 _ rfl
  have HC := Lib.hid hC2
  have HO := Lib.hid bo
  clear hC2 bo
  obtain ⟨md, hmd⟩ : ∃ md : Int, md = (if t.op.kind = 1 then 1 else 2) := ⟨_, rfl⟩
  have HMD := Lib.hid hmd
  clear hmd
  go_upto_if 114 with (fail)
  go_cut [] (fun V => NextCut W w g M t #[.int .i64 2, .int .i64 t.tx, .int .i64 t.attempt, .int .i64 0, .int .i64 (3 * (n : Int)), .string t.op.key, .string ⟨#[]⟩, .int .i64 md, .bool false] V ∧ Blk V bo_ 60 #[.int .i64 t.op.kind, .string t.op.key, .string t.op.value, .int .i64 t.op.n])
  case first =>
    by_cases hk1 : t.op.kind = 1
    · have he := HMD.out
      rw [if_pos hk1] at he
      subst he
      rw [hk1] at o0
      go_wp2_with fail
      go_meet
      exact ⟨((HC.out.put 7 _).put 7 _), ((HO.out.far hno _).far hno _)⟩
    · have he := HMD.out
      rw [if_neg hk1] at he
      subst he
      have hkb : (t.op.kind == 1) = false := beq_eq_false_iff_ne.2 hk1
      clear hk1
      go_wp2_with fail
      go_meet
      exact ⟨(HC.out.put 7 _), (HO.out.far hno _)⟩
  case rest =>
  obtain ⟨hC2, bo⟩ := hcut
  clear r6 r8 r9 hltZ k5 ko g6 j6 g7 j7 g8 j8 o0 HC HO
  obtain ⟨V, rfl⟩ : ∃ V : World, V = wc := ⟨_, rfl⟩
  have r3 := hC2.ref.c3
  have r6 := hC2.ref.c6
  rw [HK.out] at r6
  have hltV := hC2.ref.lt
  have k5 := hC2.b5.lt
  have k3 := hC2.b3.lt
  have ko := bo.lt
  have o1 := bo.at_ 1 _ rfl
  have j0 := hC2.b5.at_ 0 _ rfl
  have g0 := hC2.b5.frozen 0
  have j1 := hC2.b5.at_ 1 _ rfl
  have g1 := hC2.b5.frozen 1
  have j2 := hC2.b5.at_ 2 _ rfl
  have g2 := hC2.b5.frozen 2
  have j3 := hC2.b5.at_ 3 _ rfl
  have g3 := hC2.b5.frozen 3
  have j4 := hC2.b5.at_ 4 _ rfl
  have g4 := hC2.b5.frozen 4
  have j5 := hC2.b5.at_ 5 _ rfl
  have g5 := hC2.b5.frozen 5
  have j6 := hC2.b5.at_ 6 _ rfl
  have g6 := hC2.b5.frozen 6
  have j7 := hC2.b5.at_ 7 _ rfl
  have g7 := hC2.b5.frozen 7
  have j8 := hC2.b5.at_ 8 _ rfl
  have g8 := hC2.b5.frozen 8
  have m0 := hC2.b3.at_ 0 _ rfl
  have n0 := hC2.b3.frozen 0
  have m1 := hC2.b3.at_ 1 _ rfl
  have n1 := hC2.b3.frozen 1
  have m2 := hC2.b3.at_ 2 _ rfl
  have n2 := hC2.b3.frozen 2
  have m3 := hC2.b3.at_ 3 _ rfl
  have n3 := hC2.b3.frozen 3
  have m4 := hC2.b3.at_ 4 _ rfl
  have n4 := hC2.b3.frozen 4
  have m5 := hC2.b3.at_ 5 _ rfl
  have n5 := hC2.b3.frozen 5
  have m6 := hC2.b3.at_ 6 _ rfl
  have n6 := hC2.b3.frozen 6
  have m7 := hC2.b3.at_ 7 _ rfl
  have n7 := hC2.b3.frozen 7
  have m8 := hC2.b3.at_ 8 _ rfl
  have n8 := hC2.b3.frozen 8
  have HB := Lib.hid hC2.below
  have HCO : Hid (∀ q, Calls Tryd.prog 35 #[.slice M.sA t.splits.length M.sc, .string t.op.key] (V.drewN q) fun e w' => e = .returned (.int .i64 (shardOf t.splits t.op.key)) ∧ ∃ n, w' = (V.drewN q).drewN n) :=
    Lib.hid fun q => refOf_any _ _ _ _ _ hC2.ref.scl (hC2.ref.drewN q).splRow (by omega)
  clear hC2 bo
  have he : t.next = (((shardOf t.splits t.op.key : Nat) : Int), ⟨2, t.tx, t.attempt, 0, (3 * (n : Int)), t.op.key, ⟨#[]⟩, md, false⟩, true) := by
    have hz := HNX.out
    rw [HK.out, HTI.out] at hz
    rw [hz]
    rw [HMD.out, show (3 * (n : Int) + 2 - 2) = 3 * (n : Int) from by omega]
    show (_, (⟨t.asks, _, _, _, _, _, _, _, _⟩ : CmdS), _) = _
    rw [HK.out]
    rfl
  have HE := Lib.hid he
  generalize (shardOf t.splits t.op.key : Nat) = sh at *
  clear he
  go_wp2_with fail
  go_region_with
    (go_at_call 35; refine (HCO.out 1).mono ?_; rintro e w1 ⟨rfl, q, rfl⟩)
  all_goals
    go_wp2_with fail
    rw [HE.out]
    refine bodyPost_ret (v := .tuple #[.int .i64 (sh : Int), .agg #[.int .i64 2, .int .i64 t.tx, .int .i64 t.attempt, .int .i64 0, .int .i64 (3 * (n : Int)), .string t.op.key, .string ⟨#[]⟩, .int .i64 md, .bool false], .bool true]) (by simp [results, Tryd.results15, go_sem, *]) rfl ⟨rfl, ?_⟩
    first | with_reducible exact (below_put9 (below_drewN HB.out _) _ _ _ _ _ _ _ _ _).drew | with_reducible exact below_put9 (below_drewN HB.out _) _ _ _ _ _ _ _ _ _

set_option maxHeartbeats 4000000 in
theorem refNext_3 (hR : Ref W w g M t) (h16 : t.plan.length ≤ 16) (h7 : t.splits.length ≤ 7) (hx0 : 0 ≤ t.tx) (hx1 : t.tx ≤ 1048576) (ha0 : 0 ≤ t.asks) (ha8 : t.asks ≤ 8) (hi : 2 ≤ t.asks ∧ t.asks ≤ 4 → 0 ≤ t.i ∧ t.i < t.plan.length) (ht : t.asks = 7 → 0 ≤ t.told ∧ t.told < t.touched.length) (hz : ¬ t.asks = 0) (h1 : ¬ t.asks = 1) (h7' : ¬ t.asks = 7) (h24 : ¬ (t.asks < 2 ∨ 4 < t.asks)) (hk : t.asks = 3) :
    Calls Tryd.prog 15 #[.pointer (some ⟨g, 0, none⟩)] w fun e w' => e = .returned (.tuple #[.int .i64 t.next.1, .agg #[.int .i64 t.next.2.1.kind, .int .i64 t.next.2.1.tx, .int .i64 t.next.2.1.attempt, .int .i64 t.next.2.1.stamp, .int .i64 t.next.2.1.op, .string t.next.2.1.key, .string t.next.2.1.value, .int .i64 t.next.2.1.mode, .bool t.next.2.1.yes], .bool t.next.2.2]) ∧ Below w.heap.size w w' := by
  have HH := Lib.hid hk
  clear hk
  have c6 := hR.c6
  have hlt := hR.lt
  have HR := Lib.hid hR
  have HI := Lib.hid hi
  have HT := Lib.hid ht
  clear hR hi ht
  go_enter Tryd.func15, Tryd.ntmps15
  have hzb : (t.asks == 0) = false := beq_eq_false_iff_ne.2 hz
  have c0 := HR.out.c0
  have c5 := HR.out.c5
  go_upto_region 3 with (fail)
  go_cut [5] (fun s5 X => s5 = .pointer (some ⟨w.heap.size + 1, 0, none⟩) ∧ NextCut W w g M t #[.int .i64 t.asks, .int .i64 t.tx, .int .i64 t.attempt, .int .i64 0, .int .i64 0, .string ⟨#[]⟩, .string ⟨#[]⟩, .int .i64 0, .bool false] X)
  case first =>
    go_region
    all_goals
      go_wp2_with fail
      go_meet
      exact ⟨rfl, ⟨((Blk.new w _ _).alloc _).drew, (Blk.new_ (by simp)).drew, ((HR.out.alloc _).alloc _).drewN 1, (((Below.refl _ _).alloc (Nat.le_refl _) _).alloc (by simp) _).drew, HR.out.bel.size⟩⟩
  case rest =>
  obtain ⟨rfl, hC⟩ := hcut
  obtain ⟨X, rfl⟩ : ∃ X : World, X = wc := ⟨_, rfl⟩
  clear c0 c5 c6 hlt
  have b3 := hC.b3
  have b5 := hC.b5
  have hbX := hC.below
  have hRX := hC.ref
  have HC := Lib.hid hC
  clear hC HR
  have r0 := hRX.c0
  have r1 := hRX.c1
  have r3 := hRX.c3
  have r6 := hRX.c6
  have hltX := hRX.lt
  have k3 := b3.lt
  have k5 := b5.lt
  have hne1 : ¬ g = w.heap.size := fun e => by have := (hRX.blk).ne_ b3 (by decide); exact this e
  have hne2 : ¬ g = w.heap.size + 1 := fun e => by have := (hRX.blk).ne_ b5 (by decide); exact this e
  have HR := Lib.hid hRX
  have B3 := Lib.hid b3
  have B5 := Lib.hid b5
  have HB := Lib.hid hbX
  clear b3 b5 hbX hRX
  go_upto_region 4 with (fail)
  go_cut [6] (fun s6 Y => s6 = .int .i64 t.home ∧ NextCut W w g M t #[.int .i64 t.asks, .int .i64 t.tx, .int .i64 t.attempt, .int .i64 0, .int .i64 0, .string ⟨#[]⟩, .string ⟨#[]⟩, .int .i64 0, .bool false] Y)
  case first =>
    have hw : IntKind.i64.wrap (↑t.splits.length + 1) = ↑t.splits.length + 1 := IntWalk.i64_in _ (by omega)
    have hp : (0 : Int) < (t.splits.length : Int) + 1 := by omega
    go_quiet (fail)
    go_wp2_with fail
    go_meet
    exact ⟨rfl, HC.out.drewN _⟩
  case rest =>
  obtain ⟨rfl, hC⟩ := hcut
  clear r0 r1 r3 r6 hltX k3 k5 hne1 hne2 HR B3 B5 HB HC
  obtain ⟨X, rfl⟩ : ∃ Y : World, Y = wc := ⟨_, rfl⟩
  have k3 := hC.b3.lt
  have k5 := hC.b5.lt
  have hltX := hC.ref.lt
  have r1 := hC.ref.c1
  have r6 := hC.ref.c6
  have hne1 : ¬ g = w.heap.size := fun e => by have := hC.ref.blk.ne_ hC.b3 (by decide); exact this e
  have hne2 : ¬ g = w.heap.size + 1 := fun e => by have := hC.ref.blk.ne_ hC.b5 (by decide); exact this e
  have HR := Lib.hid hC.ref
  have B3 := Lib.hid hC.b3
  have B5 := Lib.hid hC.b5
  have HB := Lib.hid hC.below
  have HC := Lib.hid hC
  clear hC
  have r11 := HR.out.c11
  have r12 := HR.out.c12
  have r7 := HR.out.c7
  have r4 := HR.out.c4
  have r8 := HR.out.c8
  have r9 := HR.out.c9
  have r3 := HR.out.c3
  have j0 := B5.out.at_ 0 _ rfl
  have g0 := B5.out.frozen 0
  have j1 := B5.out.at_ 1 _ rfl
  have g1 := B5.out.frozen 1
  have j2 := B5.out.at_ 2 _ rfl
  have g2 := B5.out.frozen 2
  have j3 := B5.out.at_ 3 _ rfl
  have g3 := B5.out.frozen 3
  have j4 := B5.out.at_ 4 _ rfl
  have g4 := B5.out.frozen 4
  have j5 := B5.out.at_ 5 _ rfl
  have g5 := B5.out.frozen 5
  have j6 := B5.out.at_ 6 _ rfl
  have g6 := B5.out.frozen 6
  have j7 := B5.out.at_ 7 _ rfl
  have g7 := B5.out.frozen 7
  have j8 := B5.out.at_ 8 _ rfl
  have g8 := B5.out.frozen 8
  have m0 := B3.out.at_ 0 _ rfl
  have n0 := B3.out.frozen 0
  have m1 := B3.out.at_ 1 _ rfl
  have n1 := B3.out.frozen 1
  have m2 := B3.out.at_ 2 _ rfl
  have n2 := B3.out.frozen 2
  have m3 := B3.out.at_ 3 _ rfl
  have n3 := B3.out.frozen 3
  have m4 := B3.out.at_ 4 _ rfl
  have n4 := B3.out.frozen 4
  have m5 := B3.out.at_ 5 _ rfl
  have n5 := B3.out.frozen 5
  have m6 := B3.out.at_ 6 _ rfl
  have n6 := B3.out.frozen 6
  have m7 := B3.out.at_ 7 _ rfl
  have n7 := B3.out.frozen 7
  have m8 := B3.out.at_ 8 _ rfl
  have n8 := B3.out.frozen 8
  have h1b : (t.asks == 1) = false := beq_eq_false_iff_ne.2 h1
  have h7b : (t.asks == 7) = false := beq_eq_false_iff_ne.2 h7'
  obtain ⟨hi0, hi1⟩ := HI.out (by omega)
  obtain ⟨n, hn⟩ := Int.eq_ofNat_of_zero_le hi0
  have hnl : n < t.plan.length := by omega
  have hop : opD t.plan n = t.op := by unfold RS.op; rw [hn, Int.toNat_natCast]
  obtain ⟨ad, hA, q0, q1, q2, q3⟩ := HR.out.plnRow.op n _ (opD_at hnl)
  rw [hop] at q0 q1 q2 q3
  rw [hA] at r4
  rw [hn] at r7
  have hbl := World.block_lt_of_cell? _ _ q0
  have hnI : (n : Int) < (t.plan.length : Int) := by omega
  have hn0 : (0 : Int) ≤ (n : Int) := by omega
  have hnx : t.next = (((shardOf t.splits t.op.key : Nat) : Int), { t.cmd with key := t.op.key, op := 3 * t.i + t.asks - 2, mode := (if t.asks = 2 then (if t.op.kind = 1 then 1 else 2) else 0), value := (if t.asks = 4 then t.write.v else ⟨#[]⟩), yes := (if t.asks = 4 then t.write.h else false) }, true) := by
    unfold RS.next; rw [if_neg hz, if_neg h1, if_neg h7', if_neg h24]
  have HNX := Lib.hid hnx
  have HTI := Lib.hid hn
  clear hnx hzb h1 h7' h24 hz h1b h7b hA hop hi0 hi1 hn HI HT
  have hk := HH.out
  rw [hk] at r6 j0
  have HCK : Hid (NextCut W w g M t #[.int .i64 3, .int .i64 t.tx, .int .i64 t.attempt, .int .i64 0, .int .i64 0, .string ⟨#[]⟩, .string ⟨#[]⟩, .int .i64 0, .bool false] X) := Lib.hid (by have := HC.out; rw [hk] at this; exact this)
  have HK := Lib.hid hk
  clear hk HC
  go_upto_region 13 with (fail)
  go_cut [7] (fun s7 Y => s7 = .pointer (some ⟨X.heap.size, 0, none⟩) ∧ NextCut W w g M t #[.int .i64 3, .int .i64 t.tx, .int .i64 t.attempt, .int .i64 0, .int .i64 0, .string ⟨#[]⟩, .string ⟨#[]⟩, .int .i64 0, .bool false] Y ∧ Blk Y X.heap.size 60 #[.int .i64 t.op.kind, .string t.op.key, .string t.op.value, .int .i64 t.op.n])
  case first =>
    go_region
    all_goals
      go_wp2_with fail
      go_meet
      exact ⟨rfl, (HCK.out.alloc _).drew, ((Blk.new X _ _).drew)⟩
  case rest =>
  obtain ⟨rfl, hC2, bo⟩ := hcut
  clear r1 r3 r4 r6 r7 r8 r9 r11 r12 q0 q1 q2 q3 hbl k3 k5 hltX hne1 hne2 HR HB B3 B5 HCK j0 g0 m0 n0 j1 g1 m1 n1 j2 g2 m2 n2 j3 g3 m3 n3 j4 g4 m4 n4 j5 g5 m5 n5 j6 g6 m6 n6 j7 g7 m7 n7 j8 g8 m8 n8
  obtain ⟨Y, rfl⟩ : ∃ Y : World, Y = wc := ⟨_, rfl⟩
  generalize X.heap.size = bo_ at *
  have r6 := hC2.ref.c6
  rw [HK.out] at r6
  have r7 := hC2.ref.c7
  rw [HTI.out] at r7
  have hltY := hC2.ref.lt
  have k5 := hC2.b5.lt
  have ko := bo.lt
  have g4 := hC2.b5.frozen 4
  have j4 := hC2.b5.at_ 4 _ rfl
  have g5 := hC2.b5.frozen 5
  have j5 := hC2.b5.at_ 5 _ rfl
  have o1 := bo.at_ 1 _ rfl
  have hne := hC2.ref.blk.ne_ hC2.b5 (by decide)
  have hno := bo.ne_ hC2.b5 (by decide)
  have hne' := hne.symm
  have HC := Lib.hid hC2
  have HO := Lib.hid bo
  clear hC2 bo
  go_upto_region 15 with (fail)
  go_cut [] (fun Z => NextCut W w g M t #[.int .i64 3, .int .i64 t.tx, .int .i64 t.attempt, .int .i64 0, .int .i64 (3 * (n : Int) + 3 - 2), .string t.op.key, .string ⟨#[]⟩, .int .i64 0, .bool false] Z ∧ Blk Z bo_ 60 #[.int .i64 t.op.kind, .string t.op.key, .string t.op.value, .int .i64 t.op.n])
  case first =>
    go_wp2_with fail
    go_region
    all_goals
      go_wp2_with fail
      go_meet
      exact ⟨((HC.out.put 5 _).put 4 _).drew, ((HO.out.far hno _).far hno _).drew⟩
  case rest =>
  obtain ⟨hC2, bo⟩ := hcut
  clear r6 r7 hltY k5 ko g4 j4 g5 j5 o1 hne HC HO
  obtain ⟨Z, rfl⟩ : ∃ Z : World, Z = wc := ⟨_, rfl⟩
  have r6 := hC2.ref.c6
  rw [HK.out] at r6
  have r8 := hC2.ref.c8
  have r9 := hC2.ref.c9
  have hltZ := hC2.ref.lt
  have k5 := hC2.b5.lt
  have ko := bo.lt
  have g6 := hC2.b5.frozen 6
  have j6 := hC2.b5.at_ 6 _ rfl
  have g7 := hC2.b5.frozen 7
  have j7 := hC2.b5.at_ 7 _ rfl
  have g8 := hC2.b5.frozen 8
  have j8 := hC2.b5.at_ 8 _ rfl
  have o0 := bo.at_ 0 _ rfl
  have HC := Lib.hid hC2
  have HO := Lib.hid bo
  clear hC2 bo
  go_upto_if 124 with (fail)
  go_cut [] (fun V => NextCut W w g M t #[.int .i64 3, .int .i64 t.tx, .int .i64 t.attempt, .int .i64 0, .int .i64 (3 * (n : Int) + 3 - 2), .string t.op.key, .string ⟨#[]⟩, .int .i64 0, .bool false] V ∧ Blk V bo_ 60 #[.int .i64 t.op.kind, .string t.op.key, .string t.op.value, .int .i64 t.op.n])
  case first =>
    go_wp2_with fail
    go_meet
    exact ⟨HC.out, HO.out⟩
  case rest =>
  obtain ⟨hC2, bo⟩ := hcut
  clear r6 r8 r9 hltZ k5 ko g6 j6 g7 j7 g8 j8 o0 HC HO
  obtain ⟨V, rfl⟩ : ∃ V : World, V = wc := ⟨_, rfl⟩
  have r3 := hC2.ref.c3
  have r6 := hC2.ref.c6
  rw [HK.out] at r6
  have hltV := hC2.ref.lt
  have k5 := hC2.b5.lt
  have k3 := hC2.b3.lt
  have ko := bo.lt
  have o1 := bo.at_ 1 _ rfl
  have j0 := hC2.b5.at_ 0 _ rfl
  have g0 := hC2.b5.frozen 0
  have j1 := hC2.b5.at_ 1 _ rfl
  have g1 := hC2.b5.frozen 1
  have j2 := hC2.b5.at_ 2 _ rfl
  have g2 := hC2.b5.frozen 2
  have j3 := hC2.b5.at_ 3 _ rfl
  have g3 := hC2.b5.frozen 3
  have j4 := hC2.b5.at_ 4 _ rfl
  have g4 := hC2.b5.frozen 4
  have j5 := hC2.b5.at_ 5 _ rfl
  have g5 := hC2.b5.frozen 5
  have j6 := hC2.b5.at_ 6 _ rfl
  have g6 := hC2.b5.frozen 6
  have j7 := hC2.b5.at_ 7 _ rfl
  have g7 := hC2.b5.frozen 7
  have j8 := hC2.b5.at_ 8 _ rfl
  have g8 := hC2.b5.frozen 8
  have m0 := hC2.b3.at_ 0 _ rfl
  have n0 := hC2.b3.frozen 0
  have m1 := hC2.b3.at_ 1 _ rfl
  have n1 := hC2.b3.frozen 1
  have m2 := hC2.b3.at_ 2 _ rfl
  have n2 := hC2.b3.frozen 2
  have m3 := hC2.b3.at_ 3 _ rfl
  have n3 := hC2.b3.frozen 3
  have m4 := hC2.b3.at_ 4 _ rfl
  have n4 := hC2.b3.frozen 4
  have m5 := hC2.b3.at_ 5 _ rfl
  have n5 := hC2.b3.frozen 5
  have m6 := hC2.b3.at_ 6 _ rfl
  have n6 := hC2.b3.frozen 6
  have m7 := hC2.b3.at_ 7 _ rfl
  have n7 := hC2.b3.frozen 7
  have m8 := hC2.b3.at_ 8 _ rfl
  have n8 := hC2.b3.frozen 8
  have HB := Lib.hid hC2.below
  have HCO : Hid (∀ q, Calls Tryd.prog 35 #[.slice M.sA t.splits.length M.sc, .string t.op.key] (V.drewN q) fun e w' => e = .returned (.int .i64 (shardOf t.splits t.op.key)) ∧ ∃ n, w' = (V.drewN q).drewN n) :=
    Lib.hid fun q => refOf_any _ _ _ _ _ hC2.ref.scl (hC2.ref.drewN q).splRow (by omega)
  clear hC2 bo
  have he : t.next = (((shardOf t.splits t.op.key : Nat) : Int), ⟨3, t.tx, t.attempt, 0, (3 * (n : Int) + 3 - 2), t.op.key, ⟨#[]⟩, 0, false⟩, true) := by
    have hz := HNX.out
    rw [HK.out, HTI.out] at hz
    rw [hz]
    skip
    show (_, (⟨t.asks, _, _, _, _, _, _, _, _⟩ : CmdS), _) = _
    rw [HK.out]
    rfl
  have HE := Lib.hid he
  generalize (shardOf t.splits t.op.key : Nat) = sh at *
  clear he
  go_wp2_with fail
  go_region_with
    (go_at_call 35; refine (HCO.out 1).mono ?_; rintro e w1 ⟨rfl, q, rfl⟩)
  all_goals
    go_wp2_with fail
    rw [HE.out]
    refine bodyPost_ret (v := .tuple #[.int .i64 (sh : Int), .agg #[.int .i64 3, .int .i64 t.tx, .int .i64 t.attempt, .int .i64 0, .int .i64 (3 * (n : Int) + 3 - 2), .string t.op.key, .string ⟨#[]⟩, .int .i64 0, .bool false], .bool true]) (by simp [results, Tryd.results15, go_sem, *]) rfl ⟨rfl, ?_⟩
    first | with_reducible exact (below_put9 (below_drewN HB.out _) _ _ _ _ _ _ _ _ _).drew | with_reducible exact below_put9 (below_drewN HB.out _) _ _ _ _ _ _ _ _ _

set_option maxHeartbeats 4000000 in
theorem refNext_4 (hR : Ref W w g M t) (h16 : t.plan.length ≤ 16) (h7 : t.splits.length ≤ 7) (hx0 : 0 ≤ t.tx) (hx1 : t.tx ≤ 1048576) (ha0 : 0 ≤ t.asks) (ha8 : t.asks ≤ 8) (hi : 2 ≤ t.asks ∧ t.asks ≤ 4 → 0 ≤ t.i ∧ t.i < t.plan.length) (ht : t.asks = 7 → 0 ≤ t.told ∧ t.told < t.touched.length) (hz : ¬ t.asks = 0) (h1 : ¬ t.asks = 1) (h7' : ¬ t.asks = 7) (h24 : ¬ (t.asks < 2 ∨ 4 < t.asks)) (hk : t.asks = 4) :
    Calls Tryd.prog 15 #[.pointer (some ⟨g, 0, none⟩)] w fun e w' => e = .returned (.tuple #[.int .i64 t.next.1, .agg #[.int .i64 t.next.2.1.kind, .int .i64 t.next.2.1.tx, .int .i64 t.next.2.1.attempt, .int .i64 t.next.2.1.stamp, .int .i64 t.next.2.1.op, .string t.next.2.1.key, .string t.next.2.1.value, .int .i64 t.next.2.1.mode, .bool t.next.2.1.yes], .bool t.next.2.2]) ∧ Below w.heap.size w w' := by
  have HH := Lib.hid hk
  clear hk
  have c6 := hR.c6
  have hlt := hR.lt
  have HR := Lib.hid hR
  have HI := Lib.hid hi
  have HT := Lib.hid ht
  clear hR hi ht
  go_enter Tryd.func15, Tryd.ntmps15
  have hzb : (t.asks == 0) = false := beq_eq_false_iff_ne.2 hz
  have c0 := HR.out.c0
  have c5 := HR.out.c5
  go_upto_region 3 with (fail)
  go_cut [5] (fun s5 X => s5 = .pointer (some ⟨w.heap.size + 1, 0, none⟩) ∧ NextCut W w g M t #[.int .i64 t.asks, .int .i64 t.tx, .int .i64 t.attempt, .int .i64 0, .int .i64 0, .string ⟨#[]⟩, .string ⟨#[]⟩, .int .i64 0, .bool false] X)
  case first =>
    go_region
    all_goals
      go_wp2_with fail
      go_meet
      exact ⟨rfl, ⟨((Blk.new w _ _).alloc _).drew, (Blk.new_ (by simp)).drew, ((HR.out.alloc _).alloc _).drewN 1, (((Below.refl _ _).alloc (Nat.le_refl _) _).alloc (by simp) _).drew, HR.out.bel.size⟩⟩
  case rest =>
  obtain ⟨rfl, hC⟩ := hcut
  obtain ⟨X, rfl⟩ : ∃ X : World, X = wc := ⟨_, rfl⟩
  clear c0 c5 c6 hlt
  have b3 := hC.b3
  have b5 := hC.b5
  have hbX := hC.below
  have hRX := hC.ref
  have HC := Lib.hid hC
  clear hC HR
  have r0 := hRX.c0
  have r1 := hRX.c1
  have r3 := hRX.c3
  have r6 := hRX.c6
  have hltX := hRX.lt
  have k3 := b3.lt
  have k5 := b5.lt
  have hne1 : ¬ g = w.heap.size := fun e => by have := (hRX.blk).ne_ b3 (by decide); exact this e
  have hne2 : ¬ g = w.heap.size + 1 := fun e => by have := (hRX.blk).ne_ b5 (by decide); exact this e
  have HR := Lib.hid hRX
  have B3 := Lib.hid b3
  have B5 := Lib.hid b5
  have HB := Lib.hid hbX
  clear b3 b5 hbX hRX
  go_upto_region 4 with (fail)
  go_cut [6] (fun s6 Y => s6 = .int .i64 t.home ∧ NextCut W w g M t #[.int .i64 t.asks, .int .i64 t.tx, .int .i64 t.attempt, .int .i64 0, .int .i64 0, .string ⟨#[]⟩, .string ⟨#[]⟩, .int .i64 0, .bool false] Y)
  case first =>
    have hw : IntKind.i64.wrap (↑t.splits.length + 1) = ↑t.splits.length + 1 := IntWalk.i64_in _ (by omega)
    have hp : (0 : Int) < (t.splits.length : Int) + 1 := by omega
    go_quiet (fail)
    go_wp2_with fail
    go_meet
    exact ⟨rfl, HC.out.drewN _⟩
  case rest =>
  obtain ⟨rfl, hC⟩ := hcut
  clear r0 r1 r3 r6 hltX k3 k5 hne1 hne2 HR B3 B5 HB HC
  obtain ⟨X, rfl⟩ : ∃ Y : World, Y = wc := ⟨_, rfl⟩
  have k3 := hC.b3.lt
  have k5 := hC.b5.lt
  have hltX := hC.ref.lt
  have r1 := hC.ref.c1
  have r6 := hC.ref.c6
  have hne1 : ¬ g = w.heap.size := fun e => by have := hC.ref.blk.ne_ hC.b3 (by decide); exact this e
  have hne2 : ¬ g = w.heap.size + 1 := fun e => by have := hC.ref.blk.ne_ hC.b5 (by decide); exact this e
  have HR := Lib.hid hC.ref
  have B3 := Lib.hid hC.b3
  have B5 := Lib.hid hC.b5
  have HB := Lib.hid hC.below
  have HC := Lib.hid hC
  clear hC
  have r11 := HR.out.c11
  have r12 := HR.out.c12
  have r7 := HR.out.c7
  have r4 := HR.out.c4
  have r8 := HR.out.c8
  have r9 := HR.out.c9
  have r3 := HR.out.c3
  have j0 := B5.out.at_ 0 _ rfl
  have g0 := B5.out.frozen 0
  have j1 := B5.out.at_ 1 _ rfl
  have g1 := B5.out.frozen 1
  have j2 := B5.out.at_ 2 _ rfl
  have g2 := B5.out.frozen 2
  have j3 := B5.out.at_ 3 _ rfl
  have g3 := B5.out.frozen 3
  have j4 := B5.out.at_ 4 _ rfl
  have g4 := B5.out.frozen 4
  have j5 := B5.out.at_ 5 _ rfl
  have g5 := B5.out.frozen 5
  have j6 := B5.out.at_ 6 _ rfl
  have g6 := B5.out.frozen 6
  have j7 := B5.out.at_ 7 _ rfl
  have g7 := B5.out.frozen 7
  have j8 := B5.out.at_ 8 _ rfl
  have g8 := B5.out.frozen 8
  have m0 := B3.out.at_ 0 _ rfl
  have n0 := B3.out.frozen 0
  have m1 := B3.out.at_ 1 _ rfl
  have n1 := B3.out.frozen 1
  have m2 := B3.out.at_ 2 _ rfl
  have n2 := B3.out.frozen 2
  have m3 := B3.out.at_ 3 _ rfl
  have n3 := B3.out.frozen 3
  have m4 := B3.out.at_ 4 _ rfl
  have n4 := B3.out.frozen 4
  have m5 := B3.out.at_ 5 _ rfl
  have n5 := B3.out.frozen 5
  have m6 := B3.out.at_ 6 _ rfl
  have n6 := B3.out.frozen 6
  have m7 := B3.out.at_ 7 _ rfl
  have n7 := B3.out.frozen 7
  have m8 := B3.out.at_ 8 _ rfl
  have n8 := B3.out.frozen 8
  have h1b : (t.asks == 1) = false := beq_eq_false_iff_ne.2 h1
  have h7b : (t.asks == 7) = false := beq_eq_false_iff_ne.2 h7'
  obtain ⟨hi0, hi1⟩ := HI.out (by omega)
  obtain ⟨n, hn⟩ := Int.eq_ofNat_of_zero_le hi0
  have hnl : n < t.plan.length := by omega
  have hop : opD t.plan n = t.op := by unfold RS.op; rw [hn, Int.toNat_natCast]
  obtain ⟨ad, hA, q0, q1, q2, q3⟩ := HR.out.plnRow.op n _ (opD_at hnl)
  rw [hop] at q0 q1 q2 q3
  rw [hA] at r4
  rw [hn] at r7
  have hbl := World.block_lt_of_cell? _ _ q0
  have hnI : (n : Int) < (t.plan.length : Int) := by omega
  have hn0 : (0 : Int) ≤ (n : Int) := by omega
  have hnx : t.next = (((shardOf t.splits t.op.key : Nat) : Int), { t.cmd with key := t.op.key, op := 3 * t.i + t.asks - 2, mode := (if t.asks = 2 then (if t.op.kind = 1 then 1 else 2) else 0), value := (if t.asks = 4 then t.write.v else ⟨#[]⟩), yes := (if t.asks = 4 then t.write.h else false) }, true) := by
    unfold RS.next; rw [if_neg hz, if_neg h1, if_neg h7', if_neg h24]
  have HNX := Lib.hid hnx
  have HTI := Lib.hid hn
  clear hnx hzb h1 h7' h24 hz h1b h7b hA hop hi0 hi1 hn HI HT
  have hk := HH.out
  rw [hk] at r6 j0
  have HCK : Hid (NextCut W w g M t #[.int .i64 4, .int .i64 t.tx, .int .i64 t.attempt, .int .i64 0, .int .i64 0, .string ⟨#[]⟩, .string ⟨#[]⟩, .int .i64 0, .bool false] X) := Lib.hid (by have := HC.out; rw [hk] at this; exact this)
  have HK := Lib.hid hk
  clear hk HC
  go_upto_region 13 with (fail)
  go_cut [7] (fun s7 Y => s7 = .pointer (some ⟨X.heap.size, 0, none⟩) ∧ NextCut W w g M t #[.int .i64 4, .int .i64 t.tx, .int .i64 t.attempt, .int .i64 0, .int .i64 0, .string ⟨#[]⟩, .string ⟨#[]⟩, .int .i64 0, .bool false] Y ∧ Blk Y X.heap.size 60 #[.int .i64 t.op.kind, .string t.op.key, .string t.op.value, .int .i64 t.op.n])
  case first =>
    go_region
    all_goals
      go_wp2_with fail
      go_meet
      exact ⟨rfl, (HCK.out.alloc _).drew, ((Blk.new X _ _).drew)⟩
  case rest =>
  obtain ⟨rfl, hC2, bo⟩ := hcut
  clear r1 r3 r4 r6 r7 r8 r9 r11 r12 q0 q1 q2 q3 hbl k3 k5 hltX hne1 hne2 HR HB B3 B5 HCK j0 g0 m0 n0 j1 g1 m1 n1 j2 g2 m2 n2 j3 g3 m3 n3 j4 g4 m4 n4 j5 g5 m5 n5 j6 g6 m6 n6 j7 g7 m7 n7 j8 g8 m8 n8
  obtain ⟨Y, rfl⟩ : ∃ Y : World, Y = wc := ⟨_, rfl⟩
  generalize X.heap.size = bo_ at *
  have r6 := hC2.ref.c6
  rw [HK.out] at r6
  have r7 := hC2.ref.c7
  rw [HTI.out] at r7
  have hltY := hC2.ref.lt
  have k5 := hC2.b5.lt
  have ko := bo.lt
  have g4 := hC2.b5.frozen 4
  have j4 := hC2.b5.at_ 4 _ rfl
  have g5 := hC2.b5.frozen 5
  have j5 := hC2.b5.at_ 5 _ rfl
  have o1 := bo.at_ 1 _ rfl
  have hne := hC2.ref.blk.ne_ hC2.b5 (by decide)
  have hno := bo.ne_ hC2.b5 (by decide)
  have hne' := hne.symm
  have HC := Lib.hid hC2
  have HO := Lib.hid bo
  clear hC2 bo
  go_upto_region 15 with (fail)
  go_cut [] (fun Z => NextCut W w g M t #[.int .i64 4, .int .i64 t.tx, .int .i64 t.attempt, .int .i64 0, .int .i64 (3 * (n : Int) + 4 - 2), .string t.op.key, .string ⟨#[]⟩, .int .i64 0, .bool false] Z ∧ Blk Z bo_ 60 #[.int .i64 t.op.kind, .string t.op.key, .string t.op.value, .int .i64 t.op.n])
  case first =>
    go_wp2_with fail
    go_region
    all_goals
      go_wp2_with fail
      go_meet
      exact ⟨((HC.out.put 5 _).put 4 _).drew, ((HO.out.far hno _).far hno _).drew⟩
  case rest =>
  obtain ⟨hC2, bo⟩ := hcut
  clear r6 r7 hltY k5 ko g4 j4 g5 j5 o1 hne HC HO
  obtain ⟨Z, rfl⟩ : ∃ Z : World, Z = wc := ⟨_, rfl⟩
  have r6 := hC2.ref.c6
  rw [HK.out] at r6
  have r8 := hC2.ref.c8
  have r9 := hC2.ref.c9
  have hltZ := hC2.ref.lt
  have k5 := hC2.b5.lt
  have ko := bo.lt
  have g6 := hC2.b5.frozen 6
  have j6 := hC2.b5.at_ 6 _ rfl
  have g7 := hC2.b5.frozen 7
  have j7 := hC2.b5.at_ 7 _ rfl
  have g8 := hC2.b5.frozen 8
  have j8 := hC2.b5.at_ 8 _ rfl
  have o0 := bo.at_ 0 _ rfl
  have HC := Lib.hid hC2
  have HO := Lib.hid bo
  clear hC2 bo
  go_upto_if 124 with (fail)
  go_cut [] (fun V => NextCut W w g M t #[.int .i64 4, .int .i64 t.tx, .int .i64 t.attempt, .int .i64 0, .int .i64 (3 * (n : Int) + 4 - 2), .string t.op.key, .string t.write.v, .int .i64 0, .bool t.write.h] V ∧ Blk V bo_ 60 #[.int .i64 t.op.kind, .string t.op.key, .string t.op.value, .int .i64 t.op.n])
  case first =>
    go_wp2_with fail
    go_region
    all_goals
      go_wp2_with fail
      go_meet
      exact ⟨((HC.out.put 6 _).put 8 _).drew, ((HO.out.far hno _).far hno _).drew⟩
  case rest =>
  obtain ⟨hC2, bo⟩ := hcut
  clear r6 r8 r9 hltZ k5 ko g6 j6 g7 j7 g8 j8 o0 HC HO
  obtain ⟨V, rfl⟩ : ∃ V : World, V = wc := ⟨_, rfl⟩
  have r3 := hC2.ref.c3
  have r6 := hC2.ref.c6
  rw [HK.out] at r6
  have hltV := hC2.ref.lt
  have k5 := hC2.b5.lt
  have k3 := hC2.b3.lt
  have ko := bo.lt
  have o1 := bo.at_ 1 _ rfl
  have j0 := hC2.b5.at_ 0 _ rfl
  have g0 := hC2.b5.frozen 0
  have j1 := hC2.b5.at_ 1 _ rfl
  have g1 := hC2.b5.frozen 1
  have j2 := hC2.b5.at_ 2 _ rfl
  have g2 := hC2.b5.frozen 2
  have j3 := hC2.b5.at_ 3 _ rfl
  have g3 := hC2.b5.frozen 3
  have j4 := hC2.b5.at_ 4 _ rfl
  have g4 := hC2.b5.frozen 4
  have j5 := hC2.b5.at_ 5 _ rfl
  have g5 := hC2.b5.frozen 5
  have j6 := hC2.b5.at_ 6 _ rfl
  have g6 := hC2.b5.frozen 6
  have j7 := hC2.b5.at_ 7 _ rfl
  have g7 := hC2.b5.frozen 7
  have j8 := hC2.b5.at_ 8 _ rfl
  have g8 := hC2.b5.frozen 8
  have m0 := hC2.b3.at_ 0 _ rfl
  have n0 := hC2.b3.frozen 0
  have m1 := hC2.b3.at_ 1 _ rfl
  have n1 := hC2.b3.frozen 1
  have m2 := hC2.b3.at_ 2 _ rfl
  have n2 := hC2.b3.frozen 2
  have m3 := hC2.b3.at_ 3 _ rfl
  have n3 := hC2.b3.frozen 3
  have m4 := hC2.b3.at_ 4 _ rfl
  have n4 := hC2.b3.frozen 4
  have m5 := hC2.b3.at_ 5 _ rfl
  have n5 := hC2.b3.frozen 5
  have m6 := hC2.b3.at_ 6 _ rfl
  have n6 := hC2.b3.frozen 6
  have m7 := hC2.b3.at_ 7 _ rfl
  have n7 := hC2.b3.frozen 7
  have m8 := hC2.b3.at_ 8 _ rfl
  have n8 := hC2.b3.frozen 8
  have HB := Lib.hid hC2.below
  have HCO : Hid (∀ q, Calls Tryd.prog 35 #[.slice M.sA t.splits.length M.sc, .string t.op.key] (V.drewN q) fun e w' => e = .returned (.int .i64 (shardOf t.splits t.op.key)) ∧ ∃ n, w' = (V.drewN q).drewN n) :=
    Lib.hid fun q => refOf_any _ _ _ _ _ hC2.ref.scl (hC2.ref.drewN q).splRow (by omega)
  clear hC2 bo
  have he : t.next = (((shardOf t.splits t.op.key : Nat) : Int), ⟨4, t.tx, t.attempt, 0, (3 * (n : Int) + 4 - 2), t.op.key, t.write.v, 0, t.write.h⟩, true) := by
    have hz := HNX.out
    rw [HK.out, HTI.out] at hz
    rw [hz]
    skip
    show (_, (⟨t.asks, _, _, _, _, _, _, _, _⟩ : CmdS), _) = _
    rw [HK.out]
    rfl
  have HE := Lib.hid he
  generalize (shardOf t.splits t.op.key : Nat) = sh at *
  clear he
  go_wp2_with fail
  go_region_with
    (go_at_call 35; refine (HCO.out 1).mono ?_; rintro e w1 ⟨rfl, q, rfl⟩)
  all_goals
    go_wp2_with fail
    rw [HE.out]
    refine bodyPost_ret (v := .tuple #[.int .i64 (sh : Int), .agg #[.int .i64 4, .int .i64 t.tx, .int .i64 t.attempt, .int .i64 0, .int .i64 (3 * (n : Int) + 4 - 2), .string t.op.key, .string t.write.v, .int .i64 0, .bool t.write.h], .bool true]) (by simp [results, Tryd.results15, go_sem, *]) rfl ⟨rfl, ?_⟩
    first | with_reducible exact (below_put9 (below_drewN HB.out _) _ _ _ _ _ _ _ _ _).drew | with_reducible exact below_put9 (below_drewN HB.out _) _ _ _ _ _ _ _ _ _

theorem refNext_any (hR : Ref W w g M t) (h16 : t.plan.length ≤ 16) (h7 : t.splits.length ≤ 7) (hx0 : 0 ≤ t.tx) (hx1 : t.tx ≤ 1048576) (ha0 : 0 ≤ t.asks) (ha8 : t.asks ≤ 8) (hi : 2 ≤ t.asks ∧ t.asks ≤ 4 → 0 ≤ t.i ∧ t.i < t.plan.length) (ht : t.asks = 7 → 0 ≤ t.told ∧ t.told < t.touched.length) :
    Calls Tryd.prog 15 #[.pointer (some ⟨g, 0, none⟩)] w fun e w' => e = .returned (.tuple #[.int .i64 t.next.1, .agg #[.int .i64 t.next.2.1.kind, .int .i64 t.next.2.1.tx, .int .i64 t.next.2.1.attempt, .int .i64 t.next.2.1.stamp, .int .i64 t.next.2.1.op, .string t.next.2.1.key, .string t.next.2.1.value, .int .i64 t.next.2.1.mode, .bool t.next.2.1.yes], .bool t.next.2.2]) ∧ Below w.heap.size w w' := by
  by_cases hz : t.asks = 0
  · exact refNext_0 hR h16 h7 hx0 hx1 ha0 ha8 hi ht hz
  by_cases h1 : t.asks = 1
  · exact refNext_1 hR h16 h7 hx0 hx1 ha0 ha8 hi ht hz h1
  by_cases h7' : t.asks = 7
  · exact refNext_7 hR h16 h7 hx0 hx1 ha0 ha8 hi ht hz h1 h7'
  by_cases h24 : t.asks < 2 ∨ 4 < t.asks
  · exact refNext_o hR h16 h7 hx0 hx1 ha0 ha8 hi ht hz h1 h7' h24
  have hk3 : t.asks = 2 ∨ t.asks = 3 ∨ t.asks = 4 := by omega
  rcases hk3 with hk | hk | hk
  · exact refNext_2 hR h16 h7 hx0 hx1 ha0 ha8 hi ht hz h1 h7' h24 hk
  · exact refNext_3 hR h16 h7 hx0 hx1 ha0 ha8 hi ht hz h1 h7' h24 hk
  · exact refNext_4 hR h16 h7 hx0 hx1 ha0 ha8 hi ht hz h1 h7' h24 hk
end
end Go.Proofs.YtheecdjpbfkpdaaDoor
