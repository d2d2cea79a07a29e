/-
  The law DriverTold in plain Lean: what the law's own variables know of the driver.
-/
import Derived.Test.YtheecdjpbfkpdaaDoorNew
namespace Go.Proofs.YtheecdjpbfkpdaaDoor
open Go.RowKit
set_option linter.unusedSimpArgs false
set_option linter.unusedVariables false

/-- The law's variables fit the driver: in the attempt that runs. -/
structure JA (s : DS) (a got st : Int) : Prop where
  att : s.attempt = a
  low : s.phase ≤ 6 → st = 0
  got : s.phase ≤ 5 → got = s.results.length
  all : s.phase = 5 → s.results.length = s.plan.length
  fin : s.phase = 7 ∨ s.phase = 8 → st = s.outcome ∧ (st = 2 ∨ st = 3)
def JJ (s : DS) (a got st : Int) : Prop := JA s a got st ∨ (s.phase = 0 ∧ s.attempt = a + 1 ∧ st = 3)

def tldGot (k : Int) (r : RepS) (got : Int) : Int := if k = 3 ∧ r.code = 0 then got + 1 else got
def tldSt (k : Int) (r : RepS) (st : Int) : Int :=
  if (k = 1 ∨ k = 8 ∨ k = 5 ∨ k = 6) ∧ r.code = 0 ∧ (r.state = 3 ∨ (r.state = 2 ∧ k ≠ 8 ∧ k ≠ 1)) then (if k ≠ 1 then r.state else st)
  else if k = 1 ∧ r.code = 9 then 3 else st

theorem JJ.behind {s : DS} {a got st : Int} (ha : s.attempt = a) (ho : st = s.outcome) (h2 : st = 2 ∨ st = 3) : JJ s.behind a got st := by
  unfold DS.behind
  split
  · left; constructor <;> simp_all
  · split
    · left; constructor <;> simp_all
    · right
      refine ⟨rfl, ?_, ?_⟩
      · show s.attempt + 1 = a + 1; omega
      · omega
theorem JJ.ends {s : DS} {a got st : Int} (ha : s.attempt = a) (h2 : st = 2 ∨ st = 3) : JJ (s.ends st) a got st := by
  unfold DS.ends
  split
  · exact JJ.behind (by exact ha) rfl h2
  · left; constructor <;> simp_all
theorem JJ.begins {s : DS} {a got at' : Int} (ha : s.attempt = a) (hg : got = s.results.length) (hr : (s.results.length : Int) = at') (hp : at' ≤ s.plan.length) : JJ (s.begins at') a got 0 := by
  left
  unfold DS.begins
  split
  · constructor <;> simp_all <;> omega
  · split
    · constructor <;> simp_all
    · constructor <;> simp_all
theorem DS.next_kind (s : DS) (h : DInv s) : s.next.2.1.kind = (if s.phase = 0 then 1 else if s.phase = 1 then 2 else if s.phase = 2 then 8 else if s.phase = 8 then 0 else s.phase) := by
  have := h.ph0
  have := h.ph8
  unfold DS.next DS.cmd CmdS.zero
  repeat' split
  all_goals (first | rfl | (simp_all; done) | (simp_all; omega))

theorem tldSt_acc {k : Int} (r : RepS) (st : Int) (h : k = 2 ∨ k = 3 ∨ k = 4 ∨ k = 7) : tldSt k r st = st := by
  unfold tldSt
  rw [if_neg (by omega), if_neg (by omega)]
theorem tldGot_other {k : Int} (r : RepS) (got : Int) (h : k ≠ 3) : tldGot k r got = got := by
  unfold tldGot
  rw [if_neg (by omega)]

theorem JA.told_acc {s : DS} {a got st : Int} (k : Int) (hk : (s.phase = 1 ∧ k = 2) ∨ (s.phase = 3 ∧ k = 3) ∨ (s.phase = 4 ∧ k = 4)) (h : DInv s) (hJ : JA s a got st) (r : RepS) : JJ (s.accessed r) a (tldGot k r got) (tldSt k r st) := by
  rw [tldSt_acc r st (by omega)]
  have hat := hJ.att
  have hst : st = 0 := hJ.low (by omega)
  have hgo : got = s.results.length := hJ.got (by omega)
  have hops := h.ops (by omega)
  subst hst
  unfold DS.accessed
  split
  · left; constructor <;> simp_all
  · split
    · rw [tldGot_other r got (by omega)]
      left; constructor <;> simp_all
    · split
      · have e2 : tldGot k r got = got := by unfold tldGot; rw [if_neg (by omega)]
        rw [e2]
        exact .inl hJ
      · split
        · rw [tldGot_other r got (by omega)]
          left; constructor <;> simp_all
        · split
          · have e2 : tldGot k r got = got + 1 := by unfold tldGot; rw [if_pos (by omega)]
            rw [e2]
            have hrA := h.resA (by omega)
            unfold DS.got
            split
            · left
              constructor
              · exact hat
              · intro _; rfl
              · intro _
                show got + 1 = ((s.results ++ [_]).length : Int)
                rw [List.length_append]; simp; omega
              · intro e; exact absurd (show (4 : Int) = 5 from e) (by decide)
              · intro e
                rcases e with e | e
                · exact absurd (show (4 : Int) = 7 from e) (by decide)
                · exact absurd (show (4 : Int) = 8 from e) (by decide)
            · refine JJ.begins (by exact hat) ?_ ?_ ?_
              · show got + 1 = ((s.results ++ [_]).length : Int)
                rw [List.length_append]; simp; omega
              · show ((s.results ++ [_]).length : Int) = _
                rw [List.length_append]; simp; omega
              · show s.at_ + 1 ≤ s.plan.length
                omega
          · rw [tldGot_other r got (by omega)]
            have hrB := h.resB (by omega)
            exact JJ.begins hat hgo (by omega) (by omega)

theorem JA.told_home {s : DS} {a got st : Int} (k : Int) (hk : (s.phase = 0 ∧ k = 1) ∨ (s.phase = 2 ∧ k = 8) ∨ (s.phase = 5 ∧ k = 5) ∨ (s.phase = 6 ∧ k = 6)) (h : DInv s) (hJ : JA s a got st) (r : RepS) : JJ (s.homed r) a (tldGot k r got) (tldSt k r st) := by
  rw [tldGot_other r got (by omega)]
  have hat := hJ.att
  have hst : st = 0 := hJ.low (by omega)
  subst hst
  unfold DS.homed
  split
  · have e1 : tldSt k r 0 = 3 := by unfold tldSt; rw [if_neg (by omega), if_pos (by omega)]
    rw [e1]; exact JJ.ends hat (.inr rfl)
  · split
    · have e1 : tldSt k r 0 = 0 := by unfold tldSt; rw [if_neg (by omega), if_neg (by omega)]
      rw [e1]
      have h0 := h.res0 (by omega)
      refine JJ.begins hat (hJ.got (by omega)) ?_ ?_
      · rw [h0]; rfl
      · omega
    · split
      · have e1 : tldSt k r 0 = 3 := by unfold tldSt; rw [if_pos (by omega), if_pos (by omega)]; omega
        rw [e1]; exact JJ.ends hat (.inr rfl)
      · split
        · have e1 : tldSt k r 0 = 0 := by unfold tldSt; rw [if_neg (by omega), if_neg (by omega)]
          rw [e1]
          have hg := hJ.got (by omega)
          left; constructor <;> simp_all
        · split
          · have e1 : tldSt k r 0 = r.state := by unfold tldSt; rw [if_pos (by omega), if_pos (by omega)]
            rw [e1]; exact JJ.ends hat (by omega)
          · have e1 : tldSt k r 0 = 0 := by
              unfold tldSt
              split
              · split <;> omega
              · rw [if_neg (by omega)]
            rw [e1]
            exact .inl hJ

theorem JA.told {s : DS} {a got st : Int} (h : DInv s) (h8 : s.phase ≠ 8) (hJ : JA s a got st) (r : RepS) : JJ (s.told r) a (tldGot s.next.2.1.kind r got) (tldSt s.next.2.1.kind r st) := by
  have hk := s.next_kind h
  have p0 := h.ph0
  have p8 := h.ph8
  generalize s.next.2.1.kind = k at hk
  have hk' : (s.phase = 0 ∧ k = 1) ∨ (s.phase = 1 ∧ k = 2) ∨ (s.phase = 2 ∧ k = 8) ∨ (s.phase = 3 ∧ k = 3) ∨ (s.phase = 4 ∧ k = 4) ∨ (s.phase = 5 ∧ k = 5) ∨ (s.phase = 6 ∧ k = 6) ∨ (s.phase = 7 ∧ k = 7) := by
    repeat' split at hk
    all_goals omega
  unfold DS.told
  split
  · exact JA.told_acc k (by omega) h hJ r
  · split
    · rename_i hp h7
      obtain ⟨f1, f2⟩ := hJ.fin (.inl h7)
      rw [tldSt_acc r st (by omega), tldGot_other r got (by omega)]
      split
      · split
        · exact JJ.behind (by exact hJ.att) (by exact f1) f2
        · left; have := hJ.att; constructor <;> simp_all
      · exact .inl hJ
    · exact JA.told_home k (by omega) h hJ r

/-! What stays of the driver. -/
def Same (s s' : DS) : Prop := s'.stamp = s.stamp ∧ s'.plan = s.plan ∧ s'.tx = s.tx ∧ s'.splits = s.splits
theorem Same.begins (s : DS) (x : Int) : Same s (s.begins x) := by
  unfold DS.begins
  split
  · exact ⟨rfl, rfl, rfl, rfl⟩
  · split <;> exact ⟨rfl, rfl, rfl, rfl⟩
theorem Same.behind (s : DS) : Same s s.behind := by
  unfold DS.behind
  split
  · exact ⟨rfl, rfl, rfl, rfl⟩
  · split <;> exact ⟨rfl, rfl, rfl, rfl⟩
theorem Same.ends (s : DS) (x : Int) : Same s (s.ends x) := by
  unfold DS.ends
  split
  · exact Same.behind { s with outcome := x, left := [], phase := 7 }
  · exact ⟨rfl, rfl, rfl, rfl⟩
theorem Same.got (s : DS) (r : RepS) : Same s (s.got r) := by
  unfold DS.got
  split
  · exact ⟨rfl, rfl, rfl, rfl⟩
  · exact Same.begins (s.readS r) _
theorem DS.told_same (s : DS) (r : RepS) : Same s (s.told r) := by
  unfold DS.told
  split
  · unfold DS.accessed
    repeat' split
    all_goals first | exact ⟨rfl, rfl, rfl, rfl⟩ | exact Same.got s r | exact Same.begins s _
  · split
    · split
      · split
        · exact Same.behind { s with left := s.left.tail }
        · exact ⟨rfl, rfl, rfl, rfl⟩
      · exact ⟨rfl, rfl, rfl, rfl⟩
    · unfold DS.homed
      repeat' split
      all_goals first | exact ⟨rfl, rfl, rfl, rfl⟩ | exact Same.ends s _ | exact Same.begins s _

theorem DS.next_facts (s : DS) (h : DInv s) : s.next.2.1.attempt = (if s.phase = 8 then 0 else s.attempt) ∧ (s.next.2.1.kind = 1 → s.next.2.1.stamp = s.stamp) ∧ (s.next.2.1.kind = 7 → s.next.2.1.yes = (s.outcome == 2)) := by
  have := h.ph0
  have := h.ph8
  unfold DS.next DS.cmd CmdS.zero
  repeat' split
  all_goals (first | (simp; done) | (simp_all; done) | omega)
end Go.Proofs.YtheecdjpbfkpdaaDoor
