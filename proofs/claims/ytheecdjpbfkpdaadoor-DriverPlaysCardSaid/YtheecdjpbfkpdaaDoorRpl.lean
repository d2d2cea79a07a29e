/-
  The document's driver in plain Lean, and how the program's one follows it.
-/
import Derived.Test.YtheecdjpbfkpdaaDoorTld
import Derived.Test.YtheecdjpbfkpdaaDoorRnm
namespace Go.Proofs.YtheecdjpbfkpdaaDoor
open Go.RowKit
set_option linter.unusedSimpArgs false
set_option linter.unusedVariables false

structure RS where
  tx : Int
  stamp : Int
  tries : Int
  splits : List ByteArray
  plan : List OpS
  attempt : Int
  asks : Int
  i : Int
  write : ResS
  results : List ResS
  fin : Int
  told : Int
  quit : Bool

def inR (sp : List ByteArray) (l : List OpS) (i : Int) (s : Nat) : Bool := (List.range l.length).any fun j => decide ((j : Int) ≤ i) && (!decide ((opD l j).kind = 6) && decide (shardOf sp (opD l j).key = s))
def touchedR (sp : List ByteArray) (l : List OpS) (i : Int) : List Int := ((List.range (sp.length + 1)).filter fun s => inR sp l i s && decide (0 ≤ i)).map fun (s : Nat) => (s : Int)
def RS.touched (t : RS) : List Int := touchedR t.splits t.plan t.i
def RS.home (t : RS) : Int := t.tx % (t.splits.length + 1)
def RS.cmd (t : RS) : CmdS := ⟨t.asks, t.tx, t.attempt, 0, 0, ⟨#[]⟩, ⟨#[]⟩, 0, false⟩
def RS.op (t : RS) : OpS := opD t.plan t.i.toNat
def RS.next (t : RS) : Int × CmdS × Bool :=
  if t.asks = 0 then (0, CmdS.zero, false)
  else if t.asks = 1 then (t.home, { t.cmd with stamp := t.stamp }, true)
  else if t.asks = 7 then (t.touched.getD t.told.toNat 0, { t.cmd with yes := t.fin == 2, op := t.touched.getD t.told.toNat 0 }, true)
  else if t.asks < 2 ∨ 4 < t.asks then (t.home, t.cmd, true)
  else (shardOf t.splits t.op.key, { t.cmd with key := t.op.key, op := 3 * t.i + t.asks - 2, mode := (if t.asks = 2 then (if t.op.kind = 1 then 1 else 2) else 0), value := (if t.asks = 4 then t.write.v else ⟨#[]⟩), yes := (if t.asks = 4 then t.write.h else false) }, true)
def RS.begins (t : RS) (k : Int) : RS :=
  if (t.plan.length : Int) ≤ k then { t with asks := 5 }
  else if (opD t.plan k.toNat).kind = 6 then { t with asks := 6, quit := true }
  else { t with i := k, asks := 2 }
def RS.rest (t : RS) : RS :=
  if t.told < t.touched.length then t
  else if t.fin = 2 then { t with asks := 0 }
  else if t.quit = true ∨ t.tries ≤ t.attempt + 1 then { t with results := [], asks := 0 }
  else { t with results := [], attempt := t.attempt + 1, asks := 1, i := -1, fin := 0 }
def RS.ends (t : RS) (st : Int) : RS := ({ t with fin := st, told := 0, asks := 7 } : RS).rest
/-- The document's step. -/
def clampR (n : Int) : Int := if (if 1125899906842624 < n then 1125899906842624 else n) < -1125899906842624 then -1125899906842624 else (if 1125899906842624 < n then 1125899906842624 else n)
def stepR (o : OpS) (has last : ResS) : ResS × ResS :=
  if o.kind = 2 then (⟨o.value, true⟩, plainS has)
  else if o.kind = 4 then (plainS last, plainS has)
  else if o.kind = 5 then (⟨textS (clampR (clampR o.n + numR (plainS has).v)), true⟩, ⟨textS (clampR (clampR o.n + numR (plainS has).v)), true⟩)
  else if o.kind = 1 ∨ o.kind = 3 then (ResS.zero, plainS has)
  else (ResS.zero, ResS.zero)
theorem clampR_eq (n : Int) : clampR n = clampI n := by
  unfold clampR clampI
  split <;> split <;> omega
theorem stepR_eq (o : OpS) (has last : ResS) : stepR o has last = stepS o has last := by
  unfold stepR stepS addS
  rw [numR_eq, clampR_eq, clampR_eq, Int.add_comm]
  repeat' split
  all_goals first | rfl | omega
def lastR (l : List ResS) : ResS := l.getLastD ResS.zero
def RS.read (t : RS) (r : RepS) : RS := { t with write := (stepR t.op ⟨r.v, r.h⟩ (lastR t.results)).1, results := t.results ++ [(stepR t.op ⟨r.v, r.h⟩ (lastR t.results)).2] }
def RS.tell (t : RS) (r : RepS) : RS :=
  if (2 ≤ t.asks ∧ t.asks ≤ 4) ∧ (r.code = 9 ∨ r.code = 8) then { t with asks := 6 }
  else if (t.asks = 1 ∧ r.code = 9) ∨ (t.asks = 8 ∧ r.code = 0 ∧ r.state = 3) then t.ends 3
  else if t.asks = 8 ∨ (t.asks = 2 ∧ r.code = 10) then { t with asks := 10 - t.asks }
  else if r.code ≠ 0 then t
  else if t.asks = 1 ∧ r.state = 1 then ({ t with i := -1 } : RS).begins 0
  else if t.asks = 2 then { t with asks := 3 }
  else if t.asks = 3 then (if t.op.kind = 1 then (t.read r).begins (t.i + 1) else { t.read r with asks := 4 })
  else if t.asks = 4 then t.begins (t.i + 1)
  else if (t.asks = 5 ∨ t.asks = 6) ∧ (r.state = 2 ∨ r.state = 3) then t.ends r.state
  else if t.asks = 7 then ({ t with told := t.told + 1 } : RS).rest
  else t
def RS.state (t : RS) : Int := if 0 < t.asks then 1 else t.fin
def RS.start (tx stamp tries : Int) (sp : List ByteArray) (l : List OpS) : RS := ⟨tx, stamp, tries, sp, l, 0, 1, -1, ResS.zero, [], 0, 0, false⟩

/-! Which shards were touched. -/
theorem mem_touchedR {sp : List ByteArray} {l : List OpS} {i x : Int} : x ∈ touchedR sp l i ↔ ∃ s : Nat, x = s ∧ s ≤ sp.length ∧ 0 ≤ i ∧ ∃ j, j < l.length ∧ (j : Int) ≤ i ∧ (opD l j).kind ≠ 6 ∧ shardOf sp (opD l j).key = s := by
  unfold touchedR inR
  simp only [List.mem_map, List.mem_filter, List.mem_range, Bool.and_eq_true, List.any_eq_true, decide_eq_true_eq, Bool.not_eq_true', decide_eq_false_iff_not]
  constructor
  · rintro ⟨s, ⟨h1, ⟨j, h2, h3, h4, h5⟩, h6⟩, rfl⟩
    exact ⟨s, rfl, by omega, h6, j, h2, h3, h4, h5⟩
  · rintro ⟨s, rfl, h1, h6, j, h2, h3, h4, h5⟩
    exact ⟨s, ⟨by omega, ⟨j, h2, h3, h4, h5⟩, h6⟩, rfl⟩
theorem sort_touchedR (sp : List ByteArray) (l : List OpS) (i : Int) : (touchedR sp l i).Pairwise (· < ·) := by
  unfold touchedR
  rw [List.pairwise_map]
  refine List.Pairwise.imp (fun h => Int.ofNat_lt.2 h) (List.Pairwise.filter _ List.pairwise_lt_range)
theorem sorted_ext : ∀ {a b : List Int}, a.Pairwise (· < ·) → b.Pairwise (· < ·) → (∀ x, x ∈ a ↔ x ∈ b) → a = b
  | [], [], _, _, _ => rfl
  | [], y :: b, _, _, h => absurd ((h y).2 (by simp)) (by simp)
  | x :: a, [], _, _, h => absurd ((h x).1 (by simp)) (by simp)
  | x :: a, y :: b, ha, hb, h => by
    obtain ⟨ha1, ha2⟩ := List.pairwise_cons.1 ha
    obtain ⟨hb1, hb2⟩ := List.pairwise_cons.1 hb
    have hxy : x = y := by
      have h1 := (h x).1 (by simp)
      have h2 := (h y).2 (by simp)
      rcases List.mem_cons.1 h1 with e | e
      · exact e
      · rcases List.mem_cons.1 h2 with e' | e'
        · exact e'.symm
        · have := ha1 y e'
          have := hb1 x e
          omega
    subst hxy
    congr 1
    refine sorted_ext ha2 hb2 (fun z => ?_)
    constructor
    · intro hz
      rcases List.mem_cons.1 ((h z).1 (List.mem_cons_of_mem _ hz)) with e | e
      · have := ha1 z hz; omega
      · exact e
    · intro hz
      rcases List.mem_cons.1 ((h z).2 (List.mem_cons_of_mem _ hz)) with e | e
      · have := hb1 z hz; omega
      · exact e
theorem touchedR_none (sp : List ByteArray) (l : List OpS) : touchedR sp l (-1) = [] := by
  refine List.eq_nil_iff_forall_not_mem.2 (fun x hx => ?_)
  obtain ⟨_, _, _, h, _⟩ := mem_touchedR.1 hx
  omega
theorem touchedR_step (sp : List ByteArray) (l : List OpS) (k : Nat) (hk : k < l.length) (h6 : (opD l k).kind ≠ 6) : touchedR sp l k = insS (touchedR sp l ((k : Int) - 1)) (shardOf sp (opD l k).key) := by
  refine sorted_ext (sort_touchedR _ _ _) (sort_insS (sort_touchedR _ _ _) _) (fun x => ?_)
  rw [mem_insS, mem_touchedR, mem_touchedR]
  constructor
  · rintro ⟨s, rfl, h1, h2, j, h3, h4, h5, h7⟩
    by_cases hj : j = k
    · subst hj; left; rw [h7]
    · right; exact ⟨s, rfl, h1, by omega, j, h3, by omega, h5, h7⟩
  · rintro (rfl | ⟨s, rfl, h1, h2, j, h3, h4, h5, h7⟩)
    · exact ⟨_, rfl, shardOf_le _ _, by omega, k, hk, by omega, h6, rfl⟩
    · exact ⟨s, rfl, h1, by omega, j, h3, by omega, h5, h7⟩

/-- The program's driver and the document's. -/
structure RelD (s : DS) (t : RS) : Prop where
  tx : t.tx = s.tx
  stamp : t.stamp = s.stamp
  tries : t.tries = s.tries
  spl : t.splits = s.splits
  pln : t.plan = s.plan
  att : t.attempt = s.attempt
  asks : t.asks = (if s.phase = 0 then 1 else if s.phase = 1 then 2 else if s.phase = 2 then 8 else if s.phase = 8 then 0 else s.phase)
  quit : t.quit = s.quits
  res : t.results = s.results
  i1 : 1 ≤ s.phase ∧ s.phase ≤ 4 → t.i = s.at_
  i0 : s.phase = 0 → t.i = -1
  tou : s.touched = touchedR s.splits s.plan t.i
  last : s.phase ≤ 6 → s.last = lastR s.results
  wr : s.phase = 4 → t.write = s.write
  fin : s.phase = 7 ∨ s.phase = 8 → t.fin = s.outcome
  left : s.phase = 7 → s.left = s.touched.drop t.told.toNat ∧ 0 ≤ t.told ∧ t.told < s.touched.length
  okk : ∀ o ∈ s.plan, opOk o = true
  knd : 1 ≤ s.phase ∧ s.phase ≤ 4 → s.op.kind ≠ 6
section
variable {s : DS} {t : RS}
theorem RelD.op (h : RelD s t) (hp : 1 ≤ s.phase ∧ s.phase ≤ 4) : t.op = s.op := by
  unfold RS.op DS.op opD
  rw [h.pln, h.i1 hp]
theorem opD_mem {l : List OpS} {k : Nat} (h : k < l.length) : opD l k ∈ l := List.mem_of_getElem? (opD_at h)
/-- The kind of an operation that may be. -/
theorem ok_kind {o : OpS} (h : opOk o = true) : 1 ≤ o.kind ∧ o.kind ≤ 6 := by
  have := (opOk_iff o).1 h
  omega
theorem RelD.kind (h : RelD s t) (hI : DInv s) (hp : 1 ≤ s.phase ∧ s.phase ≤ 4) : 1 ≤ s.op.kind ∧ s.op.kind ≤ 5 := by
  have h1 := hI.ops (by omega)
  have h2 := hI.at0
  have hm : s.op ∈ s.plan := opD_mem (k := s.at_.toNat) (by omega)
  have := ok_kind (h.okk _ hm)
  have := h.knd hp
  omega
theorem RelD.next (h : RelD s t) (hI : DInv s) : t.next = s.next := by
  have p0 := hI.ph0
  have p8 := hI.ph8
  have hph : s.phase = 0 ∨ s.phase = 1 ∨ s.phase = 2 ∨ s.phase = 3 ∨ s.phase = 4 ∨ s.phase = 5 ∨ s.phase = 6 ∨ s.phase = 7 ∨ s.phase = 8 := by omega
  have ha := h.asks
  unfold RS.next DS.next RS.home DS.home RS.cmd DS.cmd
  rw [h.tx, h.spl, h.att, h.stamp]
  rcases hph with e | e | e | e | e | e | e | e | e
  · have ha : t.asks = 1 := by rw [ha, e]; rfl
    simp [ha, e]
  · have ha : t.asks = 2 := by rw [ha, e]; rfl
    have hk := h.kind hI (by omega)
    have hm : modeOf s.op = if s.op.kind = 1 then 1 else 2 := by unfold modeOf; repeat' split <;> omega
    simp [ha, e, h.op (by omega), h.i1 (by omega), hm]
  · have ha : t.asks = 8 := by rw [ha, e]; rfl
    simp [ha, e]
  · have ha : t.asks = 3 := by rw [ha, e]; rfl
    simp [ha, e, h.op (by omega), h.i1 (by omega)]
    omega
  · have ha : t.asks = 4 := by rw [ha, e]; rfl
    simp [ha, e, h.op (by omega), h.i1 (by omega), h.wr e]
    omega
  · have ha : t.asks = 5 := by rw [ha, e]; rfl
    simp [ha, e]
  · have ha : t.asks = 6 := by rw [ha, e]; rfl
    simp [ha, e]
  · have ha : t.asks = 7 := by rw [ha, e]; rfl
    obtain ⟨l1, l2, l3⟩ := h.left e
    have ht : t.touched = s.touched := by unfold RS.touched; rw [h.spl, h.pln, h.tou]
    have hl : s.left.headD 0 = s.touched.getD t.told.toNat 0 := by
      rw [l1, List.headD_eq_head?_getD, List.head?_drop, List.getD_eq_getElem?_getD]
    simp only [ha, e]
    rw [ht, hl, h.fin (.inl e)]
    simp
  · have ha : t.asks = 0 := by rw [ha, e]; rfl
    simp [ha, e]
end
end Go.Proofs.YtheecdjpbfkpdaaDoor
