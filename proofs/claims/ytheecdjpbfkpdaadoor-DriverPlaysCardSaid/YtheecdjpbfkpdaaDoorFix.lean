/-
  Walks: the law's fixed.
-/
import Derived.Test.YtheecdjpbfkpdaaDoorAcc
import Derived.Test.YtheecdjpbfkpdaaDoorTld
namespace Go.Proofs.YtheecdjpbfkpdaaDoor
open Go.RowKit
set_option maxRecDepth 100000
set_option linter.unusedSimpArgs false
set_option linter.unusedVariables false

/-- What a call keeps of blocks that aren't a driver's. -/
def Keep (w w' : World) : Prop := ∀ k t cs, t ≠ 69 → t ≠ 52 → t ≠ 3 → Blk w k t cs → Blk w' k t cs
theorem Keep.of_below {w w' : World} (h : Below w.heap.size w w') : Keep w w' := fun k t cs _ _ _ hb => hb.below h hb.lt
/-- A driver that was made since the world W. -/
structure Run (W w : World) (g : Nat) (L : DL) (s : DS) : Prop where
  drv : Drv w W.heap.size g L s
  bel : Below W.heap.size W w
  ft : ∀ k, foot g L k → W.heap.size ≤ k
  glob : Glob W
  big : 3 ≤ W.heap.size
  inv : DInv s
section
variable {W w w' : World} {g : Nat} {L : DL} {s : DS}
theorem Run.below (h : Run W w g L s) (hb : Below w.heap.size w w') : Run W w' g L s :=
  ⟨h.drv.below hb, h.bel.trans (hb.mono h.bel.size), h.ft, h.glob, h.big, h.inv⟩
theorem Run.drewN (h : Run W w g L s) (n : Nat) : Run W (w.drewN n) g L s := ⟨h.drv.drewN n, ⟨h.bel.os, h.bel.tape, h.bel.output, h.bel.size, h.bel.block⟩, h.ft, h.glob, h.big, h.inv⟩
theorem Run.alloc (h : Run W w g L s) (o : Obj) : Run W (w.alloc o) g L s := h.below ((Below.refl _ _).alloc (Nat.le_refl _) o)
theorem Run.gl (h : Run W w g L s) : Glob w := h.glob.below h.bel h.big
theorem Run.foot_type (h : Run W w g L s) {k : Nat} {t : TypeId} {cs : Array Value} (hb : Blk w k t cs) (h1 : t ≠ 69) (h2 : t ≠ 52) (h3 : t ≠ 3) : ¬ foot g L k := by
  rintro (rfl | hr | hr)
  · exact h1 (hb.inj h.drv.blk).2
  · exact own_ne_blk h.drv.res hb (fun e => h2 e.symm) hr
  · exact own_ne_blk h.drv.tou hb (fun e => h3 e.symm) hr
theorem Run.told (h : Run W w g L s) {s' : DS} (hp : DPost w W.heap.size g L s' w') (hi : DInv s') : (∃ L', Run W w' g L' s') ∧ Keep w w' := by
  obtain ⟨L', h1, h2, h3⟩ := hp
  refine ⟨⟨L', ⟨h1, ?_, ?_, h.glob, h.big, hi⟩⟩, ?_⟩
  · exact h.bel.trans (h2.to_below h.ft h.bel.size)
  · intro k hk
    rcases h3 k hk with x | x
    · exact h.ft k x
    · exact Nat.le_trans h.bel.size x
  · intro k t cs n1 n2 n3 hb
    exact hb.keep (h2.block k hb.lt (h.foot_type hb n1 n2 n3))

theorem run_next (h : Run W w g L s) :
    Calls Tryd.prog 10 #[.pointer (some ⟨g, 0, none⟩)] w fun e w' => e = .returned (.tuple #[.int .i64 s.next.1, .agg #[.int .i64 s.next.2.1.kind, .int .i64 s.next.2.1.tx, .int .i64 s.next.2.1.attempt, .int .i64 s.next.2.1.stamp, .int .i64 s.next.2.1.op, .string s.next.2.1.key, .string s.next.2.1.value, .int .i64 s.next.2.1.mode, .bool s.next.2.1.yes], .bool s.next.2.2]) ∧ Run W w' g L s ∧ Keep w w' :=
  (next_any h.drv h.inv).mono fun e w' ⟨h1, h2⟩ => ⟨h1, h.below h2, .of_below h2⟩
theorem run_told (h : Run W w g L s) (r : RepS) (hp : s.phase ≠ 8) (c : CmdS) (hc : cmdEq c s.next.2.1 = true) (hrv : r.v.size ≤ 281474976710656) :
    Calls Tryd.prog 12 #[.pointer (some ⟨g, 0, none⟩), .agg #[.int .i64 c.kind, .int .i64 c.tx, .int .i64 c.attempt, .int .i64 c.stamp, .int .i64 c.op, .string c.key, .string c.value, .int .i64 c.mode, .bool c.yes], .agg #[.int .i64 r.code, .int .i64 r.state, .string r.v, .bool r.h]] w fun e w' => e = .returned (.bool true) ∧ (∃ L', Run W w' g L' (s.told r)) ∧ Keep w w' :=
  (told_any r h.drv h.inv hp c hc hrv h.gl h.big).mono fun e w' ⟨h1, h2⟩ => ⟨h1, h.told h2 (h.inv.told r)⟩
theorem run_told_other (h : Run W w g L s) (r : RepS) (hp : s.phase ≠ 8) (c : CmdS) (hc : cmdEq c s.next.2.1 = false) :
    Calls Tryd.prog 12 #[.pointer (some ⟨g, 0, none⟩), .agg #[.int .i64 c.kind, .int .i64 c.tx, .int .i64 c.attempt, .int .i64 c.stamp, .int .i64 c.op, .string c.key, .string c.value, .int .i64 c.mode, .bool c.yes], .agg #[.int .i64 r.code, .int .i64 r.state, .string r.v, .bool r.h]] w fun e w' => e = .returned (.bool false) ∧ Run W w' g L s ∧ Keep w w' :=
  (told_other c r h.drv h.inv hp hc).mono fun e w' ⟨h1, h2⟩ => ⟨h1, h.below h2, .of_below h2⟩
theorem run_state (h : Run W w g L s) :
    Calls Tryd.prog 11 #[.pointer (some ⟨g, 0, none⟩)] w fun e w' => e = .returned (.int .i64 s.state) ∧ Run W w' g L s ∧ Keep w w' :=
  (state_any w W.heap.size g L s h.drv).mono fun e w' ⟨h1, n, h2⟩ => ⟨h1, by subst h2; exact h.drewN n, by subst h2; exact fun _ _ _ _ _ _ hb => hb⟩
end

theorem fx_ok : newCode 1 5 3 [⟨1, ⟨#[97]⟩, ⟨#[]⟩, 0⟩] = 0 := by
  unfold newCode rightOps
  rw [if_neg (by decide), if_neg (by decide), if_pos]
  rw [List.all_cons, List.all_nil, Bool.and_true, opOk_iff]
  exact .inr ⟨by decide, by decide, .inr (.inr (.inl rfl))⟩
theorem Row.of_blk {w : World} {k n sz : Nat} {t : TypeId} {cs : Array Value} {xs : List Value} (h : Blk w k t cs) (hx : cs.toList = xs) (hl : xs.length = n * sz) : Row w (some ⟨k, 0, none⟩) n sz xs := by
  refine ⟨hl, fun _ => ⟨_, rfl, fun j u hj => ?_⟩⟩
  rw [show (⟨k, 0, none⟩ : Addr).add j = ⟨k, j, none⟩ from by unfold Addr.add; split <;> simp_all]
  refine h.at_ j u ?_
  rw [← hj, ← hx]; simp
theorem run_results {W w : World} {g : Nat} {L : DL} {s : DS} (h : Run W w g L s) :
    Calls Tryd.prog 20 #[.pointer (some ⟨g, 0, none⟩)] w fun e w' => (∃ A c, e = .returned (.slice A s.out.length c) ∧ w'.ownsRow w.heap.size 52 2 (.slice A s.out.length c) s.out.length (resRow s.out)) ∧ Run W w' g L s ∧ Keep w w' :=
  (results_any w W.heap.size g L s h.drv h.inv).mono fun e w' ⟨h1, h2⟩ => ⟨h1, h.below h2, .of_below h2⟩
def fx0 : DS := DS.start 1 5 3 [] [⟨1, ⟨#[97]⟩, ⟨#[]⟩, 0⟩]
def fx1 : DS := fx0.told ⟨0, 1, ⟨#[]⟩, false⟩
def fx2 : DS := fx1.told ⟨0, 0, ⟨#[]⟩, false⟩
def fx3 : DS := fx2.told ⟨0, 0, ⟨#[118]⟩, true⟩
def fx4 : DS := fx3.told ⟨0, 2, ⟨#[]⟩, false⟩
def fx5 : DS := fx4.told ⟨0, 0, ⟨#[]⟩, false⟩
theorem fx0_next : fx0.next = (0, ⟨1, 1, 0, 5, 0, ⟨#[]⟩, ⟨#[]⟩, 0, false⟩, true) := by rfl
theorem fx1_next : fx1.next = (0, ⟨2, 1, 0, 0, 0, ⟨#[97]⟩, ⟨#[]⟩, 1, false⟩, true) := by rfl
theorem fx2_next : fx2.next = (0, ⟨3, 1, 0, 0, 1, ⟨#[97]⟩, ⟨#[]⟩, 0, false⟩, true) := by rfl
theorem fx3_next : fx3.next = (0, ⟨5, 1, 0, 0, 0, ⟨#[]⟩, ⟨#[]⟩, 0, false⟩, true) := by rfl
theorem fx4_next : fx4.next = (0, ⟨7, 1, 0, 0, 0, ⟨#[]⟩, ⟨#[]⟩, 0, true⟩, true) := by rfl
theorem fx5_next : fx5.next = (0, ⟨0, 0, 0, 0, 0, ⟨#[]⟩, ⟨#[]⟩, 0, false⟩, false) := by rfl
theorem fx5_out : fx5.out = [⟨⟨#[118]⟩, true⟩] := by rfl

set_option maxHeartbeats 4000000 in
theorem fixed_any (W : World) (hG : Glob W) (hB : 3 ≤ W.heap.size) :
    Calls Tryd.prog 5 #[] W fun e w' => e = .returned (.bool true) ∧ Below W.heap.size W w' := by
  have HG := Lib.hid hG
  have hI0 : DInv fx0 := DInv.start fx_ok (by decide)
  have hI1 : DInv fx1 := hI0.told _
  have hI2 : DInv fx2 := hI1.told _
  have hI3 : DInv fx3 := hI2.told _
  have hI4 : DInv fx4 := hI3.told _
  have hI5 : DInv fx5 := hI4.told _
  have HI0 := Lib.hid hI0
  have HI5 := Lib.hid hI5
  clear hG hI0 hI1 hI2 hI3 hI4 hI5
  go_enter Tryd.func5, Tryd.ntmps5
  go_wp2_with fail
  refine (routeNew_ok none 0 [] _ (by simp) (.inl rfl) (Row.nil _ _ _) (by decide)).mono ?_
  rintro e w1 ⟨⟨gm, rfl, hm⟩, hb⟩
  have HM : Hid (IsMap w1 W.heap.size gm []) := hm
  have HB : Hid (Below W.heap.size W w1) := ⟨hb.os, hb.tape, hb.output, hb.size, hb.block⟩
  clear hm hb
  go_wp2_with fail
  refine (new_ok 1 5 3 gm W.heap.size [] (some ⟨w1.heap.size, 0, none⟩) 1 [⟨1, ⟨#[97]⟩, ⟨#[]⟩, 0⟩] _ (by simp) (.inr ⟨_, _, rfl⟩) ?row ?map ?big fx_ok).mono ?_
  case row => exact Row.of_blk (Blk.new _ _ _) rfl rfl
  case map => exact HM.out.below ((Below.refl _ _).alloc (Nat.le_refl _) _)
  case big => exact Nat.le_trans HB.out.size (by simp)
  rintro e w2 ⟨⟨g, L, rfl, hd, hf⟩, hb⟩
  have hR : Run W w2 g L fx0 := ⟨hd, (HB.out.alloc HB.out.size _).trans (hb.mono (Nat.le_trans HB.out.size (by simp))), fun k hk => Nat.le_trans HB.out.size (Nat.le_trans (by simp) (hf k hk)), HG.out, hB, HI0.out⟩
  have HR := Lib.hid hR
  clear hd hf hb hR HM
  go_wp2_with fail
  have hc := run_next HR.out
  rw [fx0_next] at hc
  refine hc.mono ?_
  clear hc HR
  rintro e w3 ⟨rfl, hR, hK⟩
  have HR := Lib.hid hR
  clear hR hK
  go_wp2_with fail
  refine (run_told_other (HR.out.alloc _) ⟨0, 0, ⟨#[]⟩, false⟩ (by decide) ⟨0, 0, 0, 0, 0, ⟨#[]⟩, ⟨#[]⟩, 0, false⟩ (by rw [fx0_next]; rfl)).mono ?_
  clear HR
  rintro e w4 ⟨rfl, hR, hK⟩
  have b0 := Lib.hid (hK _ _ _ (by decide) (by decide) (by decide) (Blk.new w3 38 #[.int .i64 1, .int .i64 1, .int .i64 0, .int .i64 5, .int .i64 0, .string ⟨#[]⟩, .string ⟨#[]⟩, .int .i64 0, .bool false]))
  have HR := Lib.hid hR
  clear hR hK
  have b0c0 : w4.cell? ⟨w3.heap.size, 0, none⟩ = some (.int .i64 1) := b0.out.at_ 0 _ rfl
  have b0c1 : w4.cell? ⟨w3.heap.size, 1, none⟩ = some (.int .i64 1) := b0.out.at_ 1 _ rfl
  have b0c2 : w4.cell? ⟨w3.heap.size, 2, none⟩ = some (.int .i64 0) := b0.out.at_ 2 _ rfl
  have b0c3 : w4.cell? ⟨w3.heap.size, 3, none⟩ = some (.int .i64 5) := b0.out.at_ 3 _ rfl
  have b0c4 : w4.cell? ⟨w3.heap.size, 4, none⟩ = some (.int .i64 0) := b0.out.at_ 4 _ rfl
  have b0c5 : w4.cell? ⟨w3.heap.size, 5, none⟩ = some (.string ⟨#[]⟩) := b0.out.at_ 5 _ rfl
  have b0c6 : w4.cell? ⟨w3.heap.size, 6, none⟩ = some (.string ⟨#[]⟩) := b0.out.at_ 6 _ rfl
  have b0c7 : w4.cell? ⟨w3.heap.size, 7, none⟩ = some (.int .i64 0) := b0.out.at_ 7 _ rfl
  have b0c8 : w4.cell? ⟨w3.heap.size, 8, none⟩ = some (.bool false) := b0.out.at_ 8 _ rfl
  have b0lt := b0.out.lt
  go_wp2_with fail
  refine (run_told HR.out ⟨0, 1, ⟨#[]⟩, false⟩ (by decide) ⟨1, 1, 0, 5, 0, ⟨#[]⟩, ⟨#[]⟩, 0, false⟩ (by rw [fx0_next]; exact cmdEq_refl _) (by decide)).mono ?_
  clear HR
  clear b0c0 b0c1 b0c2 b0c3 b0c4 b0c5 b0c6 b0c7 b0c8 b0lt
  rintro e w5 ⟨rfl, ⟨L, hR⟩, hK⟩
  have b0 := Lib.hid (hK _ _ _ (by decide) (by decide) (by decide) b0.out)
  have HR : Hid (Run W w5 g L fx1) := hR
  clear hR hK
  go_wp2_with fail
  have hc := run_next HR.out
  rw [fx1_next] at hc
  refine hc.mono ?_
  clear hc HR
  rintro e w6 ⟨rfl, hR, hK⟩
  have b0 := Lib.hid (hK _ _ _ (by decide) (by decide) (by decide) b0.out)
  have HR := Lib.hid hR
  clear hR hK
  go_wp2_with fail
  refine (run_told (HR.out.alloc _) ⟨0, 0, ⟨#[]⟩, false⟩ (by decide) ⟨2, 1, 0, 0, 0, ⟨#[97]⟩, ⟨#[]⟩, 1, false⟩ (by rw [fx1_next]; exact cmdEq_refl _) (by decide)).mono ?_
  clear HR
  rintro e w7 ⟨rfl, ⟨L, hR⟩, hK⟩
  have b0 := Lib.hid (hK _ _ _ (by decide) (by decide) (by decide) (b0.out.alloc _))
  have b1 := Lib.hid (hK _ _ _ (by decide) (by decide) (by decide) (Blk.new w6 38 #[.int .i64 2, .int .i64 1, .int .i64 0, .int .i64 0, .int .i64 0, .string ⟨#[97]⟩, .string ⟨#[]⟩, .int .i64 1, .bool false]))
  have HR : Hid (Run W w7 g L fx2) := hR
  clear hR hK
  go_wp2_with fail
  have hc := run_next HR.out
  rw [fx2_next] at hc
  refine hc.mono ?_
  clear hc HR
  rintro e w8 ⟨rfl, hR, hK⟩
  have b0 := Lib.hid (hK _ _ _ (by decide) (by decide) (by decide) b0.out)
  have b1 := Lib.hid (hK _ _ _ (by decide) (by decide) (by decide) b1.out)
  have HR := Lib.hid hR
  clear hR hK
  go_wp2_with fail
  refine (run_told (HR.out.alloc _) ⟨0, 0, ⟨#[118]⟩, true⟩ (by decide) ⟨3, 1, 0, 0, 1, ⟨#[97]⟩, ⟨#[]⟩, 0, false⟩ (by rw [fx2_next]; exact cmdEq_refl _) (by decide)).mono ?_
  clear HR
  rintro e w9 ⟨rfl, ⟨L, hR⟩, hK⟩
  have b0 := Lib.hid (hK _ _ _ (by decide) (by decide) (by decide) (b0.out.alloc _))
  have b1 := Lib.hid (hK _ _ _ (by decide) (by decide) (by decide) (b1.out.alloc _))
  have b2 := Lib.hid (hK _ _ _ (by decide) (by decide) (by decide) (Blk.new w8 38 #[.int .i64 3, .int .i64 1, .int .i64 0, .int .i64 0, .int .i64 1, .string ⟨#[97]⟩, .string ⟨#[]⟩, .int .i64 0, .bool false]))
  have HR : Hid (Run W w9 g L fx3) := hR
  clear hR hK
  go_wp2_with fail
  have hc := run_next HR.out
  rw [fx3_next] at hc
  refine hc.mono ?_
  clear hc HR
  rintro e w10 ⟨rfl, hR, hK⟩
  have b0 := Lib.hid (hK _ _ _ (by decide) (by decide) (by decide) b0.out)
  have b1 := Lib.hid (hK _ _ _ (by decide) (by decide) (by decide) b1.out)
  have b2 := Lib.hid (hK _ _ _ (by decide) (by decide) (by decide) b2.out)
  have HR := Lib.hid hR
  clear hR hK
  go_wp2_with fail
  refine (run_told (HR.out.alloc _) ⟨0, 2, ⟨#[]⟩, false⟩ (by decide) ⟨5, 1, 0, 0, 0, ⟨#[]⟩, ⟨#[]⟩, 0, false⟩ (by rw [fx3_next]; exact cmdEq_refl _) (by decide)).mono ?_
  clear HR
  rintro e w11 ⟨rfl, ⟨L, hR⟩, hK⟩
  have b0 := Lib.hid (hK _ _ _ (by decide) (by decide) (by decide) (b0.out.alloc _))
  have b1 := Lib.hid (hK _ _ _ (by decide) (by decide) (by decide) (b1.out.alloc _))
  have b2 := Lib.hid (hK _ _ _ (by decide) (by decide) (by decide) (b2.out.alloc _))
  have b3 := Lib.hid (hK _ _ _ (by decide) (by decide) (by decide) (Blk.new w10 38 #[.int .i64 5, .int .i64 1, .int .i64 0, .int .i64 0, .int .i64 0, .string ⟨#[]⟩, .string ⟨#[]⟩, .int .i64 0, .bool false]))
  have HR : Hid (Run W w11 g L fx4) := hR
  clear hR hK
  go_wp2_with fail
  have hc := run_next HR.out
  rw [fx4_next] at hc
  refine hc.mono ?_
  clear hc HR
  rintro e w12 ⟨rfl, hR, hK⟩
  have b0 := Lib.hid (hK _ _ _ (by decide) (by decide) (by decide) b0.out)
  have b1 := Lib.hid (hK _ _ _ (by decide) (by decide) (by decide) b1.out)
  have b2 := Lib.hid (hK _ _ _ (by decide) (by decide) (by decide) b2.out)
  have b3 := Lib.hid (hK _ _ _ (by decide) (by decide) (by decide) b3.out)
  have HR := Lib.hid hR
  clear hR hK
  go_wp2_with fail
  refine (run_state (HR.out.alloc _)).mono ?_
  clear HR
  rintro e w13 ⟨rfl, hR, hK⟩
  have b0 := Lib.hid (hK _ _ _ (by decide) (by decide) (by decide) (b0.out.alloc _))
  have b1 := Lib.hid (hK _ _ _ (by decide) (by decide) (by decide) (b1.out.alloc _))
  have b2 := Lib.hid (hK _ _ _ (by decide) (by decide) (by decide) (b2.out.alloc _))
  have b3 := Lib.hid (hK _ _ _ (by decide) (by decide) (by decide) (b3.out.alloc _))
  have b4 := Lib.hid (hK _ _ _ (by decide) (by decide) (by decide) (Blk.new w12 38 #[.int .i64 7, .int .i64 1, .int .i64 0, .int .i64 0, .int .i64 0, .string ⟨#[]⟩, .string ⟨#[]⟩, .int .i64 0, .bool true]))
  have HR := Lib.hid hR
  clear hR hK
  have b4c0 : w13.cell? ⟨w12.heap.size, 0, none⟩ = some (.int .i64 7) := b4.out.at_ 0 _ rfl
  have b4c1 : w13.cell? ⟨w12.heap.size, 1, none⟩ = some (.int .i64 1) := b4.out.at_ 1 _ rfl
  have b4c2 : w13.cell? ⟨w12.heap.size, 2, none⟩ = some (.int .i64 0) := b4.out.at_ 2 _ rfl
  have b4c3 : w13.cell? ⟨w12.heap.size, 3, none⟩ = some (.int .i64 0) := b4.out.at_ 3 _ rfl
  have b4c4 : w13.cell? ⟨w12.heap.size, 4, none⟩ = some (.int .i64 0) := b4.out.at_ 4 _ rfl
  have b4c5 : w13.cell? ⟨w12.heap.size, 5, none⟩ = some (.string ⟨#[]⟩) := b4.out.at_ 5 _ rfl
  have b4c6 : w13.cell? ⟨w12.heap.size, 6, none⟩ = some (.string ⟨#[]⟩) := b4.out.at_ 6 _ rfl
  have b4c7 : w13.cell? ⟨w12.heap.size, 7, none⟩ = some (.int .i64 0) := b4.out.at_ 7 _ rfl
  have b4c8 : w13.cell? ⟨w12.heap.size, 8, none⟩ = some (.bool true) := b4.out.at_ 8 _ rfl
  have b4lt := b4.out.lt
  go_wp2_with fail
  refine (run_told HR.out ⟨0, 0, ⟨#[]⟩, false⟩ (by decide) ⟨7, 1, 0, 0, 0, ⟨#[]⟩, ⟨#[]⟩, 0, true⟩ (by rw [fx4_next]; exact cmdEq_refl _) (by decide)).mono ?_
  clear HR
  clear b4c0 b4c1 b4c2 b4c3 b4c4 b4c5 b4c6 b4c7 b4c8 b4lt
  rintro e w14 ⟨rfl, ⟨L, hR⟩, hK⟩
  have b0 := Lib.hid (hK _ _ _ (by decide) (by decide) (by decide) b0.out)
  have b1 := Lib.hid (hK _ _ _ (by decide) (by decide) (by decide) b1.out)
  have b2 := Lib.hid (hK _ _ _ (by decide) (by decide) (by decide) b2.out)
  have b3 := Lib.hid (hK _ _ _ (by decide) (by decide) (by decide) b3.out)
  have b4 := Lib.hid (hK _ _ _ (by decide) (by decide) (by decide) b4.out)
  have HR : Hid (Run W w14 g L fx5) := hR
  clear hR hK
  go_wp2_with fail
  have hc := run_next HR.out
  rw [fx5_next] at hc
  refine hc.mono ?_
  clear hc HR
  rintro e w15 ⟨rfl, hR, hK⟩
  have b0 := Lib.hid (hK _ _ _ (by decide) (by decide) (by decide) b0.out)
  have b1 := Lib.hid (hK _ _ _ (by decide) (by decide) (by decide) b1.out)
  have b2 := Lib.hid (hK _ _ _ (by decide) (by decide) (by decide) b2.out)
  have b3 := Lib.hid (hK _ _ _ (by decide) (by decide) (by decide) b3.out)
  have b4 := Lib.hid (hK _ _ _ (by decide) (by decide) (by decide) b4.out)
  have HR := Lib.hid hR
  clear hR hK
  go_wp2_with fail
  have hc := run_results (HR.out.alloc (.cells #[.int .i64 0, .int .i64 0, .int .i64 0, .int .i64 0, .int .i64 0, .string ⟨#[]⟩, .string ⟨#[]⟩, .int .i64 0, .bool false] 38))
  rw [fx5_out] at hc
  refine hc.mono ?_
  clear hc HR
  rintro e w16 ⟨⟨A, c, rfl, ho⟩, hR, hK⟩
  have b0 := Lib.hid (hK _ _ _ (by decide) (by decide) (by decide) (b0.out.alloc _))
  have b1 := Lib.hid (hK _ _ _ (by decide) (by decide) (by decide) (b1.out.alloc _))
  have b2 := Lib.hid (hK _ _ _ (by decide) (by decide) (by decide) (b2.out.alloc _))
  have b3 := Lib.hid (hK _ _ _ (by decide) (by decide) (by decide) (b3.out.alloc _))
  have b4 := Lib.hid (hK _ _ _ (by decide) (by decide) (by decide) (b4.out.alloc _))
  obtain ⟨A', c', hv, hle, hmx, hA⟩ := own_slice_form ho
  obtain ⟨q, rfl⟩ := hA (by decide)
  injection hv with hv1 hv2 hv3
  subst hv1
  subst hv3
  have r0 : w16.cell? ⟨q, 0, none⟩ = some (.string ⟨#[118]⟩) := own_cell ho 0 _ rfl
  have rlt := World.block_lt_of_cell? _ _ r0
  have HR := Lib.hid hR
  clear hR hK ho
  go_wp2_with fail
  refine (new_nil 1 5 3 none 0 0 _).mono ?_
  rintro e w17 ⟨rfl, hb⟩
  have hR := HR.out.below hb
  have hK := Keep.of_below hb
  have r0 : w17.cell? ⟨q, 0, none⟩ = some (.string ⟨#[118]⟩) := (hb.cell rlt).trans r0
  have rlt := World.block_lt_of_cell? _ _ r0
  have b0 := Lib.hid (hK _ _ _ (by decide) (by decide) (by decide) b0.out)
  have b1 := Lib.hid (hK _ _ _ (by decide) (by decide) (by decide) b1.out)
  have b2 := Lib.hid (hK _ _ _ (by decide) (by decide) (by decide) b2.out)
  have b3 := Lib.hid (hK _ _ _ (by decide) (by decide) (by decide) b3.out)
  have b4 := Lib.hid (hK _ _ _ (by decide) (by decide) (by decide) b4.out)
  have HR := Lib.hid hR
  clear hR hK hb
  have b0c0 : w17.cell? ⟨w3.heap.size, 0, none⟩ = some (.int .i64 1) := b0.out.at_ 0 _ rfl
  have b0c1 : w17.cell? ⟨w3.heap.size, 1, none⟩ = some (.int .i64 1) := b0.out.at_ 1 _ rfl
  have b0c3 : w17.cell? ⟨w3.heap.size, 3, none⟩ = some (.int .i64 5) := b0.out.at_ 3 _ rfl
  have b0lt := b0.out.lt
  have b1c0 : w17.cell? ⟨w6.heap.size, 0, none⟩ = some (.int .i64 2) := b1.out.at_ 0 _ rfl
  have b1c5 : w17.cell? ⟨w6.heap.size, 5, none⟩ = some (.string ⟨#[97]⟩) := b1.out.at_ 5 _ rfl
  have b1c7 : w17.cell? ⟨w6.heap.size, 7, none⟩ = some (.int .i64 1) := b1.out.at_ 7 _ rfl
  have b1lt := b1.out.lt
  have b2c0 : w17.cell? ⟨w8.heap.size, 0, none⟩ = some (.int .i64 3) := b2.out.at_ 0 _ rfl
  have b2c4 : w17.cell? ⟨w8.heap.size, 4, none⟩ = some (.int .i64 1) := b2.out.at_ 4 _ rfl
  have b2lt := b2.out.lt
  have b3c0 : w17.cell? ⟨w10.heap.size, 0, none⟩ = some (.int .i64 5) := b3.out.at_ 0 _ rfl
  have b3lt := b3.out.lt
  have b4c0 : w17.cell? ⟨w12.heap.size, 0, none⟩ = some (.int .i64 7) := b4.out.at_ 0 _ rfl
  have b4c8 : w17.cell? ⟨w12.heap.size, 8, none⟩ = some (.bool true) := b4.out.at_ 8 _ rfl
  have b4lt := b4.out.lt
  go_wp2_with fail
  have hc := state_any _ _ g _ fx5 HR.out.drv
  rw [show fx5.state = 2 from rfl] at hc
  refine hc.mono ?_
  clear hc
  rintro e w' ⟨rfl, n, rfl⟩
  go_wp2_with fail
  refine (state_nil _).mono ?_
  rintro e w' ⟨rfl, n', rfl⟩
  go_wp2_with fail
  go_ret
  exact ⟨rfl, (HR.out.drewN (n + n')).bel⟩
end Go.Proofs.YtheecdjpbfkpdaaDoor
