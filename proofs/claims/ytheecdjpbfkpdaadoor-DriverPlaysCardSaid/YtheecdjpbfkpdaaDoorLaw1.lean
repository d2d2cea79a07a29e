/-
  Walk: the law DriverTold.
-/
import Derived.Test.YtheecdjpbfkpdaaDoorFix
namespace Go.Proofs.YtheecdjpbfkpdaaDoor
open Go.RowKit
set_option maxRecDepth 100000
set_option linter.unusedSimpArgs false
set_option linter.unusedVariables false

def repCells (r : RepS) : List Value := [.int .i64 r.code, .int .i64 r.state, .string r.v, .bool r.h]
def repRow (l : List RepS) : List Value := l.flatMap repCells
theorem repRow_length (l : List RepS) : (repRow l).length = l.length * 4 := flat_length repCells 4 (fun _ => rfl) l
theorem Row.rep {w : World} {A : Option Addr} {l : List RepS} (h : Row w A l.length 4 (repRow l)) (i : Nat) (o : RepS) (ho : l[i]? = some o) :
    ∃ ad, A = some ad ∧ w.cell? (ad.add (i * 4)) = some (.int .i64 o.code) ∧ w.cell? ⟨(ad.add (i * 4)).block, (ad.add (i * 4)).off + 1, none⟩ = some (.int .i64 o.state) ∧ w.cell? ⟨(ad.add (i * 4)).block, (ad.add (i * 4)).off + 2, none⟩ = some (.string o.v) ∧ w.cell? ⟨(ad.add (i * 4)).block, (ad.add (i * 4)).off + 3, none⟩ = some (.bool o.h) := by
  have hi : i < l.length := (List.getElem?_eq_some_iff.1 ho).1
  obtain ⟨ad, e, hc⟩ := h.2 (by omega)
  have hg := fun j (hj : j < 4) => flat_get repCells 4 (fun _ => rfl) l i j o ho hj
  refine ⟨ad, e, hc (i * 4) _ (hg 0 (by omega)), ?_, ?_, ?_⟩
  · rw [← add_at ad (i * 4) 1 (by omega)]; exact hc _ _ (hg 1 (by omega))
  · rw [← add_at ad (i * 4) 2 (by omega)]; exact hc _ _ (hg 2 (by omega))
  · rw [← add_at ad (i * 4) 3 (by omega)]; exact hc _ _ (hg 3 (by omega))
def repD (l : List RepS) (k : Nat) : RepS := l.getD k ⟨0, 0, ⟨#[]⟩, false⟩
theorem repD_at {l : List RepS} {k : Nat} (h : k < l.length) : l[k]? = some (repD l k) := by
  unfold repD; rw [List.getD_eq_getElem?_getD, List.getElem?_eq_getElem h]; rfl

def bc : List ByteArray := [⟨#[98]⟩, ⟨#[99]⟩]
theorem bc_ok : routeRight bc = 0 := by
  unfold routeRight bc splitBad risesB leS
  simp [ByteArray.toList_eq]
  decide
theorem JJ.cast {s : DS} {a g g' st st' : Int} (h : JJ s a g st) (e1 : g = g') (e2 : st = st') : JJ s a g' st' := by subst e1; subst e2; exact h
section
variable {W w : World} {g : Nat} {L : DL} {s : DS}
theorem run_next_ (h : Run W w g L s) {sh kd tx at' st op : Int} {key val : ByteArray} {mode : Int} {yes ok : Bool} (hn : s.next = (sh, ⟨kd, tx, at', st, op, key, val, mode, yes⟩, ok)) :
    Calls Tryd.prog 10 #[.pointer (some ⟨g, 0, none⟩)] w fun e w' => e = .returned (.tuple #[.int .i64 sh, .agg #[.int .i64 kd, .int .i64 tx, .int .i64 at', .int .i64 st, .int .i64 op, .string key, .string val, .int .i64 mode, .bool yes], .bool ok]) ∧ Run W w' g L s ∧ Keep w w' := by
  have := run_next h
  rw [hn] at this
  exact this
theorem run_told_ (h : Run W w g L s) {sh kd tx at' st op : Int} {key val : ByteArray} {mode : Int} {yes ok : Bool} (hn : s.next = (sh, ⟨kd, tx, at', st, op, key, val, mode, yes⟩, ok)) (r : RepS) (hp : s.phase ≠ 8) (hrv : r.v.size ≤ 281474976710656) :
    Calls Tryd.prog 12 #[.pointer (some ⟨g, 0, none⟩), .agg #[.int .i64 kd, .int .i64 tx, .int .i64 at', .int .i64 st, .int .i64 op, .string key, .string val, .int .i64 mode, .bool yes], .agg #[.int .i64 r.code, .int .i64 r.state, .string r.v, .bool r.h]] w fun e w' => e = .returned (.bool true) ∧ (∃ L', Run W w' g L' (s.told r)) ∧ Keep w w' :=
  run_told h r hp ⟨kd, tx, at', st, op, key, val, mode, yes⟩ (by rw [hn]; exact cmdEq_refl _) hrv
theorem run_state_ (h : Run W w g L s) {st : Int} (hs : s.state = st) :
    Calls Tryd.prog 11 #[.pointer (some ⟨g, 0, none⟩)] w fun e w' => e = .returned (.int .i64 st) ∧ Run W w' g L s ∧ Keep w w' := by
  have := run_state h
  rw [hs] at this
  exact this
end
/-- What the law's round needs. -/
theorem tld_round {s : DS} {a got st : Int} (h : DInv s) (h8 : s.phase ≠ 8) (hJ : JJ s a got st) {sh kd tx at' sm op : Int} {key val : ByteArray} {mode : Int} {yes ok : Bool} (hn : s.next = (sh, ⟨kd, tx, at', sm, op, key, val, mode, yes⟩, ok)) :
    ok = true ∧ ((at' = a + 1 ∧ kd = 1 ∧ st = 3 ∧ sm = s.stamp ∧ JA s (a + 1) 0 0) ∨
      (at' = a ∧ JA s a got st ∧ ((kd = 1 ∧ sm = s.stamp) ∨ kd = 2 ∨ (kd = 3 ∧ got = s.results.length) ∨ kd = 4 ∨ (kd = 5 ∧ got = s.plan.length) ∨ kd = 6 ∨ (kd = 7 ∧ st = 2 ∧ yes = true) ∨ (kd = 7 ∧ st = 3 ∧ yes = false) ∨ kd = 8))) := by
  have h1 := next_some s h
  have h2 := s.next_kind h
  have h3 := s.next_facts h
  rw [hn] at h1 h2 h3
  obtain ⟨h3, h4, h5⟩ := h3
  dsimp only at h1 h2 h3 h4 h5
  rw [if_neg h8] at h3
  have p0 := h.ph0
  have p8 := h.ph8
  refine ⟨by rw [h1]; simpa using h8, ?_⟩
  have hk' : (s.phase = 0 ∧ kd = 1) ∨ (s.phase = 1 ∧ kd = 2) ∨ (s.phase = 2 ∧ kd = 8) ∨ (s.phase = 3 ∧ kd = 3) ∨ (s.phase = 4 ∧ kd = 4) ∨ (s.phase = 5 ∧ kd = 5) ∨ (s.phase = 6 ∧ kd = 6) ∨ (s.phase = 7 ∧ kd = 7) := by
    repeat' split at h2
    all_goals omega
  rcases hJ with hJ | ⟨b1, b2, b3⟩
  · right
    refine ⟨h3.trans hJ.att, hJ, ?_⟩
    rcases hk' with ⟨p, q⟩ | ⟨p, q⟩ | ⟨p, q⟩ | ⟨p, q⟩ | ⟨p, q⟩ | ⟨p, q⟩ | ⟨p, q⟩ | ⟨p, q⟩
    · exact .inl ⟨q, h4 q⟩
    · exact .inr (.inl q)
    · exact .inr (.inr (.inr (.inr (.inr (.inr (.inr (.inr q)))))))
    · exact .inr (.inr (.inl ⟨q, hJ.got (by omega)⟩))
    · exact .inr (.inr (.inr (.inl q)))
    · refine .inr (.inr (.inr (.inr (.inl ⟨q, ?_⟩))))
      rw [hJ.got (by omega), hJ.all p]
    · exact .inr (.inr (.inr (.inr (.inr (.inl q)))))
    · have hf := hJ.fin (.inl p)
      have hy := h5 q
      rcases hf.2 with e | e
      · exact .inr (.inr (.inr (.inr (.inr (.inr (.inl ⟨q, e, by rw [hy, ← hf.1, e]; rfl⟩))))))
      · exact .inr (.inr (.inr (.inr (.inr (.inr (.inr (.inl ⟨q, e, by rw [hy, ← hf.1, e]; rfl⟩)))))))
  · left
    have hkd : kd = 1 := by omega
    refine ⟨by omega, hkd, b3, h4 hkd, b2, fun _ => rfl, fun _ => ?_, fun e => by omega, fun e => by omega⟩
    rw [h.res0 b1]; rfl
end Go.Proofs.YtheecdjpbfkpdaaDoor
