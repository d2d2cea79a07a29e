/-
  The driver in plain Lean: what it asks for, what becomes of it when it is told, and what always holds of it.
-/
import Derived.Test.YtheecdjpbfkpdaaDoorDw8
import Derived.Test.YtheecdjpbfkpdaaDoorEqs
namespace Go.Proofs.YtheecdjpbfkpdaaDoor
open Go.RowKit
set_option linter.unusedVariables false

def CmdS.zero : CmdS := ⟨0, 0, 0, 0, 0, ⟨#[]⟩, ⟨#[]⟩, 0, false⟩
def DS.home (s : DS) : Int := s.tx % (s.splits.length + 1)
def DS.cmd (s : DS) (kind : Int) : CmdS := ⟨kind, s.tx, s.attempt, 0, 0, ⟨#[]⟩, ⟨#[]⟩, 0, false⟩
def DS.next (s : DS) : Int × CmdS × Bool :=
  if s.phase = 0 then (s.home, { s.cmd 1 with stamp := s.stamp }, true)
  else if s.phase = 1 then (shardOf s.splits s.op.key, { s.cmd 2 with op := 3 * s.at_, key := s.op.key, mode := modeOf s.op }, true)
  else if s.phase = 3 then (shardOf s.splits s.op.key, { s.cmd 3 with op := 3 * s.at_ + 1, key := s.op.key }, true)
  else if s.phase = 4 then (shardOf s.splits s.op.key, { s.cmd 4 with op := 3 * s.at_ + 2, key := s.op.key, value := s.write.v, yes := s.write.h }, true)
  else if s.phase = 2 then (s.home, s.cmd 8, true)
  else if s.phase = 5 then (s.home, s.cmd 5, true)
  else if s.phase = 6 then (s.home, s.cmd 6, true)
  else if s.phase = 7 then (s.left.headD 0, { s.cmd 7 with op := s.left.headD 0, yes := s.outcome == 2 }, true)
  else (0, CmdS.zero, false)
def DS.told (s : DS) (r : RepS) : DS :=
  if s.phase = 1 ∨ s.phase = 3 ∨ s.phase = 4 then s.accessed r
  else if s.phase = 7 then
    if r.code = 0 then
      if s.left.tail = [] then { s with left := s.left.tail : DS }.behind else { s with left := s.left.tail }
    else s
  else s.homed r

/-- What always holds of it. -/
structure DInv (s : DS) : Prop where
  rise : Rise s.splits
  spl7 : s.splits.length ≤ 7
  tx0 : 0 ≤ s.tx
  at0 : 0 ≤ s.at_
  at16 : s.at_ ≤ 16
  ops : s.phase = 1 ∨ s.phase = 2 ∨ s.phase = 3 ∨ s.phase = 4 → s.at_ < s.plan.length
  pln16 : s.plan.length ≤ 16
  att0 : 0 ≤ s.attempt
  att1 : s.attempt < s.tries
  tries1 : s.tries ≤ 1048576
  ph0 : 0 ≤ s.phase
  ph8 : s.phase ≤ 8
  left1 : s.phase = 7 → s.left ≠ []
  res16 : s.results.length ≤ 16
  resA : s.phase = 1 ∨ s.phase = 2 ∨ s.phase = 3 → s.results.length = s.at_
  resB : s.phase = 4 → s.results.length = s.at_ + 1
  res0 : s.phase = 0 → s.results = []
  sort : s.touched.Pairwise (· < ·)
  tou : ∀ x ∈ s.touched, 0 ≤ x ∧ x ≤ s.splits.length

theorem pairwise_len : ∀ (l : List Int) (a b : Int), l.Pairwise (· < ·) → (∀ x ∈ l, a ≤ x ∧ x ≤ b) → (l.length : Int) ≤ max 0 (b - a + 1) := by
  intro l
  induction l with
  | nil => intro a b _ _; simp; omega
  | cons x l ih =>
    intro a b hs hb
    obtain ⟨h1, h2⟩ := List.pairwise_cons.1 hs
    have hx := hb x (by simp)
    have := ih (x + 1) b h2 (fun y hy => ⟨by have := h1 y hy; omega, (hb y (by simp [hy])).2⟩)
    simp only [List.length_cons]
    omega
theorem DInv.touLen {s : DS} (h : DInv s) : s.touched.length ≤ 8 := by
  have := pairwise_len s.touched 0 s.splits.length h.sort h.tou
  have := h.spl7
  omega

theorem countP_take {l : List Int} (hs : l.Pairwise (· < ·)) (x : Int) : ∀ y ∈ l.take (l.countP (· < x)), y < x := by
  induction l with
  | nil => simp
  | cons a l ih =>
    obtain ⟨h1, h2⟩ := List.pairwise_cons.1 hs
    intro y hy
    by_cases hax : a < x
    · rw [List.countP_cons_of_pos (by simpa using hax), List.take_succ_cons, List.mem_cons] at hy
      rcases hy with rfl | hy
      · exact hax
      · exact ih h2 y hy
    · rw [List.countP_cons_of_neg (by simpa using hax)] at hy
      have h0 : l.countP (· < x) = 0 := by
        rw [List.countP_eq_zero]
        intro z hz
        have := h1 z hz
        simp
        omega
      rw [h0] at hy
      simp at hy
theorem countP_drop {l : List Int} (hs : l.Pairwise (· < ·)) (x : Int) : ∀ y ∈ l.drop (l.countP (· < x)), x ≤ y := by
  induction l with
  | nil => simp
  | cons a l ih =>
    obtain ⟨h1, h2⟩ := List.pairwise_cons.1 hs
    intro y hy
    by_cases hax : a < x
    · rw [List.countP_cons_of_pos (by simpa using hax), List.drop_succ_cons] at hy
      exact ih h2 y hy
    · have h0 : l.countP (· < x) = 0 := by
        rw [List.countP_eq_zero]
        intro z hz
        have := h1 z hz
        simp
        omega
      rw [List.countP_cons_of_neg (by simpa using hax), h0, List.drop_zero, List.mem_cons] at hy
      rcases hy with rfl | hy
      · omega
      · have := h1 y hy
        omega
theorem mem_insS {l : List Int} {x y : Int} : y ∈ insS l x ↔ y = x ∨ y ∈ l := by
  unfold insS
  split
  · rename_i h
    constructor
    · exact .inr
    · rintro (rfl | h')
      · exact h
      · exact h'
  · rw [List.mem_append, List.mem_cons]
    constructor
    · rintro (h | h | h)
      · exact .inr (List.mem_of_mem_take h)
      · exact .inl h
      · exact .inr (List.mem_of_mem_drop h)
    · rintro (h | h)
      · exact .inr (.inl h)
      · rw [← List.take_append_drop (l.countP (· < x)) l, List.mem_append] at h
        rcases h with h | h
        · exact .inl h
        · exact .inr (.inr h)
theorem sort_insS {l : List Int} (hs : l.Pairwise (· < ·)) (x : Int) : (insS l x).Pairwise (· < ·) := by
  unfold insS
  split
  · exact hs
  · rename_i hx
    have hd : ∀ y ∈ l.drop (l.countP (· < x)), x < y := fun y hy => by
      have h1 := countP_drop hs x y hy
      have h2 : y ≠ x := fun e => hx (by rw [← e]; exact List.mem_of_mem_drop hy)
      omega
    rw [List.pairwise_append, List.pairwise_cons]
    refine ⟨hs.sublist (List.take_sublist _ _), ⟨hd, hs.sublist (List.drop_sublist _ _)⟩, fun a ha b hb => ?_⟩
    have h1 := countP_take hs x a ha
    rw [List.mem_cons] at hb
    rcases hb with rfl | hb
    · exact h1
    · have := hd b hb
      omega

theorem DInv.behind {s : DS} (h : DInv s) : DInv s.behind := by
  unfold DS.behind
  split
  · exact { h with ops := fun e => by simp at e, ph0 := by simp, ph8 := by simp, left1 := fun e => by simp at e, resA := fun e => by simp at e, resB := fun e => by simp at e, res0 := fun e => by simp at e }
  · split
    · exact { h with ops := fun e => by simp at e, ph0 := by simp, ph8 := by simp, left1 := fun e => by simp at e, res16 := by simp, resA := fun e => by simp at e, resB := fun e => by simp at e, res0 := fun e => by simp at e }
    · rename_i h1 h2
      refine { h with att0 := ?_, att1 := ?_, ops := fun e => by simp at e, ph0 := by simp, ph8 := by simp, left1 := fun e => by simp at e, res16 := by simp, resA := fun e => by simp at e, resB := fun e => by simp at e, res0 := fun _ => rfl, sort := List.Pairwise.nil, tou := fun x hx => by simp at hx }
      · have := h.att0; show 0 ≤ s.attempt + 1; omega
      · have : ¬ s.tries ≤ s.attempt + 1 := fun x => h2 (.inr x)
        show s.attempt + 1 < s.tries
        omega
theorem DInv.endsA {s : DS} (h : DInv s) (st : Int) (l : List Int) (hl : l ≠ []) : DInv { s with outcome := st, left := l, phase := 7 } :=
  { h with ops := fun e => by simp at e, ph0 := by simp, ph8 := by simp, left1 := fun _ => hl, resA := fun e => by simp at e, resB := fun e => by simp at e, res0 := fun e => by simp at e }
theorem DInv.ends {s : DS} (h : DInv s) (st : Int) : DInv (s.ends st) := by
  unfold DS.ends
  split
  · -- the state in between is no longer looked at: behind reads outcome, quits, attempt and tries alone
    have h0 : DInv { s with outcome := st, left := ([] : List Int), phase := 8 } := { h with ops := fun e => by simp at e, ph0 := by simp, ph8 := by simp, left1 := fun e => by simp at e, resA := fun e => by simp at e, resB := fun e => by simp at e, res0 := fun e => by simp at e }
    have := h0.behind
    unfold DS.behind at this ⊢
    exact this
  · rename_i hne
    exact h.endsA st _ hne
theorem DInv.begins {s : DS} (h : DInv s) (a : Int) (h0 : 0 ≤ a) (h1 : a ≤ 16) (hr : a < s.plan.length → s.results.length = a) : DInv (s.begins a) := by
  unfold DS.begins
  split
  · exact { h with at0 := h0, at16 := h1, ops := fun e => by simp at e, ph0 := by simp, ph8 := by simp, left1 := fun e => by simp at e, resA := fun e => by simp at e, resB := fun e => by simp at e, res0 := fun e => by simp at e }
  · rename_i hlt
    split
    · exact { h with at0 := h0, at16 := h1, ops := fun e => by simp at e, ph0 := by simp, ph8 := by simp, left1 := fun e => by simp at e, resA := fun e => by simp at e, resB := fun e => by simp at e, res0 := fun e => by simp at e }
    · refine { h with at0 := h0, at16 := h1, ops := fun _ => (by show a < (s.plan.length : Int); omega), ph0 := by simp, ph8 := by simp, left1 := fun e => by simp at e, resA := fun _ => hr (by omega), resB := fun e => by simp at e, res0 := fun e => by simp at e, sort := sort_insS h.sort _, tou := fun x hx => ?_ }
      have hx' : x ∈ insS s.touched (shardOf s.splits (s.plan.getD a.toNat OpS.zero).key) := hx
      rw [mem_insS] at hx'
      rcases hx' with rfl | hx'
      · have := shardOf_le s.splits (s.plan.getD a.toNat OpS.zero).key
        show (0 : Int) ≤ _ ∧ _ ≤ (s.splits.length : Int)
        omega
      · exact h.tou x hx'
theorem DInv.readS {s : DS} (h : DInv s) (hp : s.phase = 3) (r : RepS) : DInv { s.readS r with phase := 4 } := by
  have hr := h.resA (.inr (.inr hp))
  have ho := h.ops (.inr (.inr (.inl hp)))
  have h16 := h.pln16
  unfold DS.readS
  exact { h with ops := fun _ => ho, ph0 := by simp, ph8 := by simp, left1 := fun e => by simp at e, res16 := (by simp; omega), resA := fun e => by simp at e, resB := fun _ => (by simp; omega), res0 := fun e => by simp at e }
theorem DInv.got {s : DS} (h : DInv s) (hp : s.phase = 3) (r : RepS) : DInv (s.got r) := by
  unfold DS.got
  have h4 := h.readS hp r
  split
  · exact h4
  · have ho := h.ops (.inr (.inr (.inl hp)))
    have h16 := h.pln16
    have h0 := h.at0
    have hb := h4.begins (s.at_ + 1) (by omega) (by omega) (fun _ => by have := h4.resB rfl; exact this)
    unfold DS.begins at hb ⊢
    exact hb
theorem DInv.accessed {s : DS} (h : DInv s) (hp : s.phase = 1 ∨ s.phase = 3 ∨ s.phase = 4) (r : RepS) : DInv (s.accessed r) := by
  have ho := h.ops (by omega)
  have h16 := h.pln16
  have h0 := h.at0
  unfold DS.accessed
  split
  · exact { h with ops := fun e => by simp at e, ph0 := by simp, ph8 := by simp, left1 := fun e => by simp at e, resA := fun e => by simp at e, resB := fun e => by simp at e, res0 := fun e => by simp at e }
  split
  · rename_i h1
    exact { h with ops := fun _ => ho, ph0 := by simp, ph8 := by simp, left1 := fun e => by simp at e, resA := fun _ => h.resA (.inl h1.1), resB := fun e => by simp at e, res0 := fun e => by simp at e }
  split
  · exact h
  split
  · rename_i h1
    exact { h with ops := fun _ => ho, ph0 := by simp, ph8 := by simp, left1 := fun e => by simp at e, resA := fun _ => h.resA (.inl h1), resB := fun e => by simp at e, res0 := fun e => by simp at e }
  split
  · rename_i h3
    exact h.got h3 r
  · have hp4 : s.phase = 4 := by omega
    exact h.begins (s.at_ + 1) (by omega) (by omega) (fun _ => h.resB hp4)
theorem DInv.homed {s : DS} (h : DInv s) (r : RepS) : DInv (s.homed r) := by
  unfold DS.homed
  split
  · exact h.ends 3
  split
  · rename_i h1
    exact h.begins 0 (by omega) (by omega) (fun _ => by rw [h.res0 h1.1]; rfl)
  split
  · exact h.ends 3
  split
  · rename_i h2
    have ho := h.ops (.inr (.inl h2))
    exact { h with ops := fun _ => ho, ph0 := by simp, ph8 := by simp, left1 := fun e => by simp at e, resA := fun _ => h.resA (.inr (.inl h2)), resB := fun e => by simp at e, res0 := fun e => by simp at e }
  split
  · exact h.ends _
  · exact h
theorem DInv.told {s : DS} (h : DInv s) (r : RepS) : DInv (s.told r) := by
  unfold DS.told
  split
  · rename_i hp
    exact h.accessed hp r
  split
  · rename_i hp
    split
    · split
      · have h0 : DInv { s with left := s.left.tail, phase := 8 } := { h with ops := fun e => by simp at e, ph0 := by simp, ph8 := by simp, left1 := fun e => by simp at e, resA := fun e => by simp at e, resB := fun e => by simp at e, res0 := fun e => by simp at e }
        have := h0.behind
        unfold DS.behind at this ⊢
        exact this
      · rename_i hl
        exact { h with left1 := fun _ => hl }
    · exact h
  · exact h.homed r
end Go.Proofs.YtheecdjpbfkpdaaDoor
