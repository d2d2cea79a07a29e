/-
  The program's driver and the document's, side by side in one memory.
-/
import Derived.Test.YtheecdjpbfkpdaaDoorRw7
import Derived.Test.YtheecdjpbfkpdaaDoorRw8
import Derived.Test.YtheecdjpbfkpdaaDoorRw9
import Derived.Test.YtheecdjpbfkpdaaDoorRwa
import Derived.Test.YtheecdjpbfkpdaaDoorLaw1
namespace Go.Proofs.YtheecdjpbfkpdaaDoor
open Go.RowKit
set_option maxRecDepth 100000
set_option linter.unusedSimpArgs false
set_option linter.unusedVariables false

section
variable {W w w' : World} {g g' : Nat} {L L' : DL} {M M' : RL} {s s' : DS} {t t' : RS} {F : Nat → Prop}
theorem touched_len (t : RS) : t.touched.length ≤ t.splits.length + 1 := touQ_len t _
theorem refTell_any (r : RepS) (hR : Ref W w g M t) (h16 : t.plan.length ≤ 16) (h7 : t.splits.length ≤ 7) (ha0 : 0 ≤ t.attempt) (ha1 : t.attempt ≤ 1048576) (hk0 : 0 < t.asks) (hk8 : t.asks ≤ 8) (hi : 2 ≤ t.asks ∧ t.asks ≤ 4 → 0 ≤ t.i ∧ t.i < t.plan.length) (ht : t.asks = 7 → 0 ≤ t.told ∧ t.told < t.touched.length)
    (hr16 : t.results.length ≤ 16) (hrv : r.v.size ≤ 281474976710656) :
    Calls Tryd.prog 16 #[.pointer (some ⟨g, 0, none⟩), .agg #[.int .i64 r.code, .int .i64 r.state, .string r.v, .bool r.h]] w fun e w' => e = .returned (.tuple #[]) ∧ RPost W w g M (t.tell r) w' := by
  obtain ⟨rc, rs, rv, rh⟩ := r
  have htl := touched_len t
  have hks : t.asks = 1 ∨ t.asks = 2 ∨ t.asks = 3 ∨ t.asks = 4 ∨ t.asks = 5 ∨ t.asks = 6 ∨ t.asks = 7 ∨ t.asks = 8 := by omega
  dsimp only at hrv ⊢
  rcases hks with hk | hk | hk | hk | hk | hk | hk | hk
  · by_cases c9 : rc = 9
    · subst c9; exact refTell_1a hR h16 h7 ha0 ha1 hk
    by_cases c0 : rc = 0
    · subst c0
      by_cases s1 : rs = 1
      · subst s1; exact refTell_1b hR h16 h7 ha0 ha1 hk
      · exact refTell_1c hR h16 h7 ha0 ha1 hk s1
    · exact refTell_1d hR h16 h7 ha0 ha1 hk c9 c0
  · by_cases c9 : rc = 9
    · subst c9; exact refTell_2a hR h16 h7 ha0 ha1 hk
    by_cases c8 : rc = 8
    · subst c8; exact refTell_2b hR h16 h7 ha0 ha1 hk
    by_cases c10 : rc = 10
    · subst c10; exact refTell_2c hR h16 h7 ha0 ha1 hk
    by_cases c0 : rc = 0
    · subst c0; exact refTell_2d hR h16 h7 ha0 ha1 hk
    · exact refTell_2e hR h16 h7 ha0 ha1 hk c9 c8 c10 c0
  · by_cases c9 : rc = 9
    · subst c9; exact refTell_3a hR h16 h7 ha0 ha1 hk
    by_cases c8 : rc = 8
    · subst c8; exact refTell_3b hR h16 h7 ha0 ha1 hk
    by_cases c0 : rc = 0
    · subst c0
      have hij := hi (by omega)
      exact refTell_read hR h16 h7 hij.1 hij.2 (by omega) hrv hk
    · exact refTell_3e hR h16 h7 ha0 ha1 hk c9 c8 c0
  · by_cases c9 : rc = 9
    · subst c9; exact refTell_4a hR h16 h7 ha0 ha1 hk
    by_cases c8 : rc = 8
    · subst c8; exact refTell_4b hR h16 h7 ha0 ha1 hk
    by_cases c0 : rc = 0
    · subst c0
      have hij := hi (by omega)
      exact refTell_4d hR h16 h7 ha0 ha1 hij.1 (by omega) hk
    · exact refTell_4e hR h16 h7 ha0 ha1 hk c9 c8 c0
  · by_cases c0 : rc = 0
    · subst c0
      by_cases s2 : rs = 2
      · subst s2; exact refTell_5a hR h16 h7 ha0 ha1 hk
      by_cases s3 : rs = 3
      · subst s3; exact refTell_5b hR h16 h7 ha0 ha1 hk
      · exact refTell_5c hR h16 h7 ha0 ha1 hk s2 s3
    · exact refTell_5d hR h16 h7 ha0 ha1 hk c0
  · by_cases c0 : rc = 0
    · subst c0
      by_cases s2 : rs = 2
      · subst s2; exact refTell_6a hR h16 h7 ha0 ha1 hk
      by_cases s3 : rs = 3
      · subst s3; exact refTell_6b hR h16 h7 ha0 ha1 hk
      · exact refTell_6c hR h16 h7 ha0 ha1 hk s2 s3
    · exact refTell_6d hR h16 h7 ha0 ha1 hk c0
  · by_cases c0 : rc = 0
    · subst c0
      have htt := ht hk
      exact refTell_7a hR h16 h7 ha0 ha1 htt.1 (by omega) hk
    · exact refTell_7b hR h16 h7 ha0 ha1 hk c0
  · by_cases c0 : rc = 0
    · subst c0
      by_cases s3 : rs = 3
      · subst s3; exact refTell_8a hR h16 h7 ha0 ha1 hk
      · exact refTell_8b hR h16 h7 ha0 ha1 hk s3
    · exact refTell_8c hR h16 h7 ha0 ha1 hk c0

theorem Ref.upd (h : Ref W w g M t) (u : Upd F w w') (hF : ∀ k, F k → ¬ rfoot g M k) (hW : ∀ k, F k → W.heap.size ≤ k) : Ref W w' g M t :=
  ⟨h.gB, h.bel.trans (u.to_below hW h.bel.size), h.blk.keep (u.block _ h.blk.lt (fun x => hF _ x (.inl rfl))), h.scl, h.pcl, h.spl, h.pln, own_upd h.res u (fun k hk x => hF k x (.inr hk))⟩
theorem Drv.upd {B : Nat} (h : Drv w B g L s) (u : Upd F w w') (hF : ∀ k, F k → ¬ foot g L k) (hT : ∀ k t cs, F k → Blk w k t cs → t = 55 ∨ t = 52) : Drv w' B g L s := by
  have hk : ∀ k t cs, Blk w k t cs → t ≠ 55 → t ≠ 52 → ¬ F k := fun k t cs hb h1 h2 hf => by
    rcases hT k t cs hf hb with e | e
    · exact h1 e
    · exact h2 e
  refine ⟨h.gB, h.blk.keep (u.block _ h.blk.lt (fun x => hF _ x (.inl rfl))), h.map.keep (u.block _ h.map.lt (hk _ _ _ h.map (by decide) (by decide))), ?_, ?_, own_upd h.res u (fun k hb x => hF k x (.inr (.inl hb))), own_upd h.tou u (fun k hb x => hF k x (.inr (.inr hb))), h.lef⟩
  · exact own_upd h.spl u (fun k hb => by obtain ⟨_, _, cs, hc⟩ := own_block h.spl k hb; exact hk _ _ _ hc (by decide) (by decide))
  · exact own_upd h.pln u (fun k hb => by obtain ⟨_, _, cs, hc⟩ := own_block h.pln k hb; exact hk _ _ _ hc (by decide) (by decide))
theorem Ref.foot_type (h : Ref W w g M t) {k : Nat} {ty : TypeId} {cs : Array Value} (hf : rfoot g M k) (hb : Blk w k ty cs) : ty = 55 ∨ ty = 52 := by
  rcases hf with rfl | x
  · exact .inl (hb.inj h.blk).2
  · obtain ⟨_, _, cs', hc⟩ := own_block h.res k x
    exact .inr (hb.inj hc).2
theorem Ref.foot_lt (h : Ref W w g M t) {k : Nat} (hf : rfoot g M k) : W.heap.size ≤ k ∧ k < w.heap.size := by
  rcases hf with rfl | x
  · exact ⟨h.gB, h.lt⟩
  · have := own_block h.res k x
    exact ⟨this.1, this.2.1⟩
theorem Run.foot_lt (h : Run W w g L s) {k : Nat} (hf : foot g L k) : k < w.heap.size := by
  rcases hf with rfl | x | x
  · exact h.drv.lt
  · exact (own_block h.drv.res k x).2.1
  · exact (own_block h.drv.tou k x).2.1

/-- Both, of one state, apart in memory. -/
structure Both (W w : World) (g : Nat) (L : DL) (s : DS) (g' : Nat) (M : RL) (t : RS) : Prop where
  run : Run W w g L s
  ref : Ref W w g' M t
  rel : RelD s t
  apart : ∀ k, foot g L k → ¬ rfoot g' M k
theorem Both.below (h : Both W w g L s g' M t) (hb : Below w.heap.size w w') : Both W w' g L s g' M t := ⟨h.run.below hb, h.ref.below hb, h.rel, h.apart⟩
theorem Both.alloc (h : Both W w g L s g' M t) (o : Obj) : Both W (w.alloc o) g L s g' M t := h.below ((Below.refl _ _).alloc (Nat.le_refl _) o)
theorem Both.drewN (h : Both W w g L s g' M t) (n : Nat) : Both W (w.drewN n) g L s g' M t := ⟨h.run.drewN n, h.ref.drewN n, h.rel, h.apart⟩
theorem Run.far (h : Run W w g L s) {p : Addr} {ty : TypeId} {cs : Array Value} (hb : Blk w p.block ty cs) (n1 : ty ≠ 69) (n2 : ty ≠ 52) (n3 : ty ≠ 3) (n4 : ty ≠ 63) (n5 : ty ≠ 9) (n6 : ty ≠ 60) (hW : W.heap.size ≤ p.block) (u : Value) : Run W (w.setCell p u) g L s := by
  have hd := h.drv
  refine ⟨⟨hd.gB, hd.blk.far (hd.blk.ne_ hb (fun e => n1 e.symm)) u, hd.map.far (hd.map.ne_ hb (fun e => n4 e.symm)) u, own_setCell hd.spl hb (fun e => n5 e.symm) u, own_setCell hd.pln hb (fun e => n6 e.symm) u, own_setCell hd.res hb (fun e => n2 e.symm) u, own_setCell hd.tou hb (fun e => n3 e.symm) u, hd.lef⟩, h.bel.setCell hW u, h.ft, h.glob, h.big, h.inv⟩
theorem Both.far (h : Both W w g L s g' M t) {p : Addr} {cs : Array Value} (hb : Blk w p.block 38 cs) (hW : W.heap.size ≤ p.block) (u : Value) : Both W (w.setCell p u) g L s g' M t :=
  ⟨h.run.far hb (by decide) (by decide) (by decide) (by decide) (by decide) (by decide) hW u, h.ref.far hb (by decide) (by decide) hW u, h.rel, h.apart⟩
/-- Blocks of other kinds are left by both. -/
def Kept (w w' : World) : Prop := ∀ k ty cs, ty ≠ 69 → ty ≠ 55 → ty ≠ 52 → ty ≠ 3 → Blk w k ty cs → Blk w' k ty cs
theorem Kept.of_below (h : Below w.heap.size w w') : Kept w w' := fun k t cs _ _ _ _ hb => hb.below h hb.lt
theorem Kept.trans {w1 : World} (h : Kept w w1) (k : Kept w1 w') : Kept w w' := fun b t cs n1 n2 n3 n4 hb => k b t cs n1 n2 n3 n4 (h b t cs n1 n2 n3 n4 hb)
/-- The program's driver is told: the document's one is left. -/
theorem Both.told1 (h : Both W w g L s g' M t) (hp : DPost w W.heap.size g L s' w') (hi : DInv s') : ∃ L', Run W w' g L' s' ∧ Ref W w' g' M t ∧ (∀ k, foot g L' k → ¬ rfoot g' M k) ∧ Kept w w' := by
  have hk := (h.run.told hp hi).2
  have hb := (h.run.told hp hi).1
  obtain ⟨L', h1, h2, h3⟩ := hp
  refine ⟨L', ⟨h1, ?_, ?_, h.run.glob, h.run.big, hi⟩, h.ref.upd h2 (fun k hf => h.apart k hf) h.run.ft, ?_, fun k t cs n1 n2 n3 n4 hb => hk k t cs n1 n3 n4 hb⟩
  · exact h.run.bel.trans (h2.to_below h.run.ft h.run.bel.size)
  · intro k hk
    rcases h3 k hk with x | x
    · exact h.run.ft k x
    · exact Nat.le_trans h.run.bel.size x
  · intro k hf hr
    rcases h3 k hf with x | x
    · exact h.apart k x hr
    · have := (h.ref.foot_lt hr).2; omega
/-- The document's driver is told: the program's one is left. -/
theorem Both.told2 (hr : Run W w g L s) (hf : Ref W w g' M t) (ha : ∀ k, foot g L k → ¬ rfoot g' M k) (hp : RPost W w g' M t' w') (hrel : RelD s t') : ∃ M', Both W w' g L s g' M' t' ∧ Kept w w' := by
  obtain ⟨M', h1, h2, h3⟩ := hp
  have hd : Drv w' W.heap.size g L s := hr.drv.upd h2 (fun k x y => ha k y x) (fun k ty cs x hb => hf.foot_type x hb)
  refine ⟨M', ⟨⟨hd, hr.bel.trans (h2.to_below (fun k x => (hf.foot_lt x).1) hr.bel.size), hr.ft, hr.glob, hr.big, hr.inv⟩, h1, hrel, ?_⟩, ?_⟩
  · intro k hx hy
    rcases h3 k hy with z | z
    · exact ha k hx z
    · have := hr.foot_lt hx; omega
  · intro k ty cs n1 n2 n3 n4 hb
    refine hb.keep (h2.block k hb.lt (fun x => ?_))
    rcases hf.foot_type x hb with e | e
    · exact n2 e
    · exact n3 e
end
end Go.Proofs.YtheecdjpbfkpdaaDoor
