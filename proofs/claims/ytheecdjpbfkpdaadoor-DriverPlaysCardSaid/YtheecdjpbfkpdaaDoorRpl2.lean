/-
  The document's driver, told as the program's one, stays beside it.
-/
import Derived.Test.YtheecdjpbfkpdaaDoorRpl
namespace Go.Proofs.YtheecdjpbfkpdaaDoor
open Go.RowKit
set_option linter.unusedSimpArgs false
set_option linter.unusedVariables false

structure Base (s : DS) (t : RS) : Prop where
  tx : t.tx = s.tx
  stamp : t.stamp = s.stamp
  tries : t.tries = s.tries
  spl : t.splits = s.splits
  pln : t.plan = s.plan
  att : t.attempt = s.attempt
  quit : t.quit = s.quits
  res : t.results = s.results
  okk : ∀ o ∈ s.plan, opOk o = true
  tou : s.touched = touchedR s.splits s.plan t.i
section
variable {s : DS} {t : RS}
theorem RelD.base (h : RelD s t) : Base s t := ⟨h.tx, h.stamp, h.tries, h.spl, h.pln, h.att, h.quit, h.res, h.okk, h.tou⟩
theorem Base.touched (h : Base s t) : t.touched = s.touched := by unfold RS.touched; rw [h.spl, h.pln, h.tou]

theorem Base.behind (h : Base s t) (hf : t.fin = s.outcome) (ht : (s.touched.length : Int) ≤ t.told) : RelD s.behind t.rest := by
  unfold RS.rest DS.behind
  rw [h.touched, if_neg (Int.not_lt.2 ht), hf]
  obtain ⟨h1, h2, h3, h4, h5, h6, h7, h8, h9, h10⟩ := h
  split
  · constructor <;> first | assumption | (simp; done) | (simp_all; done)
  · rw [h7, h3, h6]
    split
    · constructor <;> first | assumption | (simp; done) | (simp_all; done)
    · constructor <;> first | assumption | (simp; done) | (simp_all [lastR, touchedR_none]; done)
theorem Base.ends (h : Base s t) (st : Int) : RelD (s.ends st) (t.ends st) := by
  unfold DS.ends RS.ends
  split
  · rename_i h0
    exact Base.behind (s := { s with outcome := st, left := [], phase := 7 }) (t := { t with fin := st, told := 0, asks := 7 }) ⟨h.tx, h.stamp, h.tries, h.spl, h.pln, h.att, h.quit, h.res, h.okk, h.tou⟩ rfl (by show (s.touched.length : Int) ≤ 0; rw [h0]; decide)
  · rename_i h0
    have ht : ({ t with fin := st, told := 0, asks := 7 } : RS).touched = s.touched := h.touched
    have hl : 0 < s.touched.length := List.length_pos_iff.2 h0
    unfold RS.rest
    rw [ht, if_pos (by show (0 : Int) < s.touched.length; omega)]
    obtain ⟨h1, h2, h3, h4, h5, h6, h7, h8, h9, h10⟩ := h
    constructor <;> first | assumption | (simp; done) | (simp; omega)
theorem Base.begins (h : Base s t) (hl : s.last = lastR s.results) (k : Int) (hk : 0 ≤ k) (hi : t.i = k - 1) : RelD (s.begins k) (t.begins k) := by
  unfold DS.begins RS.begins
  rw [h.pln]
  have h' := h
  obtain ⟨h1, h2, h3, h4, h5, h6, h7, h8, h9, h10⟩ := h
  split
  · constructor <;> first | assumption | (simp; done) | (simp [hl]; done)
  · rename_i hlt
    have hkn : ((k.toNat : Nat) : Int) = k := by omega
    show RelD (if (opD s.plan k.toNat).kind = 6 then _ else _) _
    split
    · constructor <;> first | assumption | (simp; done) | (simp [hl]; done)
    · rename_i h6'
      have htt : insS s.touched (shardOf s.splits (opD s.plan k.toNat).key) = touchedR s.splits s.plan k := by
        have := touchedR_step s.splits s.plan k.toNat (by omega) h6'
        rw [hkn] at this
        rw [this, h10, hi]
      have hop : ({ s with at_ := k, phase := 1, touched := insS s.touched (shardOf s.splits (opD s.plan k.toNat).key) } : DS).op.kind ≠ 6 := h6'
      constructor <;> first | assumption | exact htt | (exact fun _ => hop) | (simp; done) | (simp [hl]; done)

theorem writes_kind {o : OpS} (h : 1 ≤ o.kind ∧ o.kind ≤ 5) : writesB o.kind = true ↔ ¬ o.kind = 1 := by
  unfold writesB
  simp only [Bool.and_eq_true, decide_eq_true_eq]
  omega

theorem RelD.turn (h : RelD s t) (hl : s.last = lastR s.results) (p a : Int) (hpa : (p = 6 ∧ a = 6) ∨ (((p = 1 ∧ a = 2) ∨ (p = 2 ∧ a = 8) ∨ (p = 3 ∧ a = 3)) ∧ 1 ≤ s.phase ∧ s.phase ≤ 4)) : RelD { s with phase := p } { t with asks := a } := by
  have hi := h.i1
  have hk := h.knd
  obtain ⟨h1, h2, h3, h4, h5, h6, h7, h8, h9, h10⟩ := h.base
  have hop : ({ s with phase := p } : DS).op = s.op := rfl
  rcases hpa with ⟨rfl, rfl⟩ | ⟨⟨rfl, rfl⟩ | ⟨rfl, rfl⟩ | ⟨rfl, rfl⟩, g1, g2⟩
  · constructor <;> first | assumption | (simp; done) | (simp [hl]; done)
  all_goals
    have hi' := hi ⟨g1, g2⟩
    have hk' := hk ⟨g1, g2⟩
    constructor <;> first | assumption | (exact fun _ => hi') | (exact fun _ => hk') | (simp; done) | (simp [hl]; done)

theorem RelD.tell (h : RelD s t) (hI : DInv s) (h8 : s.phase ≠ 8) (r : RepS) : RelD (s.told r) (t.tell r) := by
  have p0 := hI.ph0
  have p8 := hI.ph8
  have hph : s.phase = 0 ∨ s.phase = 1 ∨ s.phase = 2 ∨ s.phase = 3 ∨ s.phase = 4 ∨ s.phase = 5 ∨ s.phase = 6 ∨ s.phase = 7 := by omega
  have ha := h.asks
  have hb := h.base
  rcases hph with e | e | e | e | e | e | e | e
  · -- opens
    have ha : t.asks = 1 := by rw [ha, e]; rfl
    have hl := h.last (by omega)
    have hi := h.i0 e
    unfold DS.told DS.homed RS.tell
    rw [ha]
    simp only [e]
    by_cases c9 : r.code = 9
    · simp [c9]
      exact hb.ends 3
    · by_cases c0 : r.code = 0
      · by_cases s1 : r.state = 1
        · simp [c0, s1]
          exact Base.begins (t := { t with i := -1 }) ⟨h.tx, h.stamp, h.tries, h.spl, h.pln, h.att, h.quit, h.res, h.okk, by rw [h.tou, hi]⟩ hl 0 (by decide) rfl
        · simp [c0, s1]
          exact h
      · simp [c9, c0]
        exact h
  · -- locks
    have ha : t.asks = 2 := by rw [ha, e]; rfl
    have hl := h.last (by omega)
    unfold DS.told DS.accessed RS.tell
    rw [ha]
    simp only [e]
    by_cases c9 : r.code = 9 ∨ r.code = 8
    · simp [c9]
      exact h.turn hl 6 6 (by omega)
    · by_cases c10 : r.code = 10
      · simp [c10]
        exact h.turn hl 2 8 (by omega)
      · by_cases c0 : r.code = 0
        · simp [c0]
          exact h.turn hl 3 3 (by omega)
        · simp [c9, c10, c0]
          exact h
  · -- beats
    have ha : t.asks = 8 := by rw [ha, e]; rfl
    have hl := h.last (by omega)
    unfold DS.told DS.homed RS.tell
    rw [ha]
    simp only [e]
    by_cases c0 : r.code = 0 ∧ r.state = 3
    · simp [c0.1, c0.2]
      exact hb.ends 3
    · have c0' : ¬ (r.code = 0 ∧ r.state = 3) := c0
      simp [c0']
      exact h.turn hl 1 2 (by omega)
  · -- gets
    have ha : t.asks = 3 := by rw [ha, e]; rfl
    have hl := h.last (by omega)
    have hi := h.i1 (by omega)
    have hop := h.op (by omega)
    have hk := h.kind hI (by omega)
    have hw := writes_kind (o := s.op) hk
    unfold DS.told DS.accessed RS.tell
    rw [ha]
    simp only [e]
    by_cases c9 : r.code = 9 ∨ r.code = 8
    · simp [c9]
      exact h.turn hl 6 6 (by omega)
    · by_cases c0 : r.code = 0
      · have hread : Base (s.readS r) (t.read r) := by
          obtain ⟨h1, h2, h3, h4, h5, h6, h7, h8, h9, h10⟩ := hb
          refine ⟨h1, h2, h3, h4, h5, h6, h7, ?_, h9, h10⟩
          show t.results ++ [_] = s.results ++ [_]
          rw [hop, stepR_eq, h8, ← hl]
        have hlast : (s.readS r).last = lastR (s.readS r).results := by
          show _ = lastR (s.results ++ [_])
          unfold lastR
          rw [List.getLastD_eq_getLast?, List.getLast?_append]
          rfl
        simp [c0]
        unfold DS.got
        rw [hop]
        by_cases k1 : s.op.kind = 1
        · rw [if_neg (by rw [hw]; simp [k1]), if_pos k1]
          have hk1 : t.i + 1 = s.at_ + 1 := by omega
          rw [hk1]
          exact Base.begins hread hlast (s.at_ + 1) (by have := hI.at0; omega) (by show t.i = _; omega)
        · rw [if_pos (hw.2 k1), if_neg k1]
          obtain ⟨h1, h2, h3, h4, h5, h6, h7, h8, h9, h10⟩ := hread
          have hwr : (t.read r).write = (s.readS r).write := by
            show (stepR _ _ _).1 = (stepS _ _ _).1
            rw [hop, stepR_eq, h.res, ← hl]
          refine ⟨h1, h2, h3, h4, h5, h6, rfl, h7, h8, fun _ => hi, fun x => absurd (show (4 : Int) = 0 from x) (by decide), h10, fun _ => hlast, fun _ => hwr, fun x => ?_, fun x => absurd (show (4 : Int) = 7 from x) (by decide), h9, fun _ => h.knd (by omega)⟩
          rcases x with x | x
          · exact absurd (show (4 : Int) = 7 from x) (by decide)
          · exact absurd (show (4 : Int) = 8 from x) (by decide)
      · simp [c9, c0]
        exact h
  · -- puts
    have ha : t.asks = 4 := by rw [ha, e]; rfl
    have hl := h.last (by omega)
    have hi := h.i1 (by omega)
    unfold DS.told DS.accessed RS.tell
    rw [ha]
    simp only [e]
    by_cases c9 : r.code = 9 ∨ r.code = 8
    · simp [c9]
      exact h.turn hl 6 6 (by omega)
    · by_cases c0 : r.code = 0
      · simp [c0]
        rw [hi]
        exact Base.begins hb hl (s.at_ + 1) (by have := hI.at0; omega) (by omega)
      · simp [c9, c0]
        exact h
  · -- decides
    have ha : t.asks = 5 := by rw [ha, e]; rfl
    unfold DS.told DS.homed RS.tell
    rw [ha]
    simp only [e]
    by_cases c0 : r.code = 0
    · by_cases s2 : r.state = 2 ∨ r.state = 3
      · simp [c0, s2]
        exact hb.ends _
      · simp [c0, s2]
        exact h
    · simp [c0]
      exact h
  · -- kills
    have ha : t.asks = 6 := by rw [ha, e]; rfl
    unfold DS.told DS.homed RS.tell
    rw [ha]
    simp only [e]
    by_cases c0 : r.code = 0
    · by_cases s2 : r.state = 2 ∨ r.state = 3
      · simp [c0, s2]
        exact hb.ends _
      · simp [c0, s2]
        exact h
    · simp [c0]
      exact h
  · -- finishes
    have ha : t.asks = 7 := by rw [ha, e]; rfl
    obtain ⟨l1, l2, l3⟩ := h.left e
    have hf := h.fin (.inl e)
    unfold DS.told RS.tell
    rw [ha]
    simp only [e]
    by_cases c0 : r.code = 0
    · simp [c0]
      have ht : ({ t with told := t.told + 1, asks := 7 } : RS).touched = s.touched := hb.touched
      have hlt : s.left.tail = s.touched.drop (t.told + 1).toNat := by
        rw [l1, List.tail_drop]
        congr 1
        omega
      obtain ⟨h1, h2, h3, h4, h5, h6, h7, h8, h9, h10⟩ := hb
      by_cases hd : s.left.tail = []
      · rw [if_pos hd]
        have hlen : s.touched.length ≤ (t.told + 1).toNat := by rw [hlt, List.drop_eq_nil_iff] at hd; exact hd
        exact Base.behind (s := { s with left := s.left.tail, phase := 7 }) (t := { t with told := t.told + 1, asks := 7 }) ⟨h1, h2, h3, h4, h5, h6, h7, h8, h9, h10⟩ hf (by show (s.touched.length : Int) ≤ t.told + 1; omega)
      · rw [if_neg hd]
        have hlen : ¬ s.touched.length ≤ (t.told + 1).toNat := by rw [hlt, List.drop_eq_nil_iff] at hd; exact hd
        unfold RS.rest
        rw [ht, if_pos (by show t.told + 1 < (s.touched.length : Int); omega)]
        have n1 : ¬ (7 : Int) ≤ 4 := by decide
        have n2 : ¬ (7 : Int) = 0 := by decide
        have n3 : ¬ (7 : Int) ≤ 6 := by decide
        have n4 : ¬ (7 : Int) = 4 := by decide
        refine ⟨h1, h2, h3, h4, h5, h6, rfl, h7, h8, fun x => absurd x.2 n1, fun x => absurd x n2, h10, fun x => absurd x n3, fun x => absurd x n4, fun _ => hf, fun _ => ⟨hlt, by show 0 ≤ t.told + 1; omega, by show t.told + 1 < (s.touched.length : Int); omega⟩, h9, fun x => absurd x.2 n1⟩
    · simp [c0]
      exact h
theorem RelD.state (h : RelD s t) (hI : DInv s) : t.state = s.state := by
  have p0 := hI.ph0
  have p8 := hI.ph8
  have ha := h.asks
  unfold RS.state DS.state
  by_cases e : s.phase = 8
  · have ha : t.asks = 0 := by rw [ha, e]; rfl
    rw [ha, if_neg (by decide), if_pos e]
    exact h.fin (.inr e)
  · have ha : 0 < t.asks := by
      rw [ha]
      repeat' split
      all_goals omega
    rw [if_pos ha, if_neg e]
end
theorem RelD.start {tx stamp tries : Int} {sp : List ByteArray} {l : List OpS} (h : newCode tx stamp tries l = 0) : RelD (DS.start tx stamp tries sp l) (RS.start tx stamp tries sp l) := by
  have hk := newCode_ok h
  have hall := List.all_eq_true.1 hk.2.2.2.2.2.2.2.1
  have n1 : ¬ (1 : Int) ≤ 0 := by decide
  have n4 : ¬ (0 : Int) = 4 := by decide
  have n7 : ¬ (0 : Int) = 7 := by decide
  have n8 : ¬ (0 : Int) = 8 := by decide
  refine ⟨rfl, rfl, rfl, rfl, rfl, rfl, rfl, rfl, rfl, fun x => absurd x.1 n1, fun _ => rfl, (touchedR_none _ _).symm, fun _ => rfl, fun x => absurd x n4, fun x => ?_, fun x => absurd x n7, hall, fun x => absurd x.1 n1⟩
  rcases x with x | x
  · exact absurd x n7
  · exact absurd x n8
end Go.Proofs.YtheecdjpbfkpdaaDoor
