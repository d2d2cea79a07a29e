/-
  Strings in Go's order, in plain Lean.
-/
import Derived.Test.YtheecdjpbfkpdaaDoorMem
import Derived.Laws.Strings
namespace Go.Proofs.YtheecdjpbfkpdaaDoor
theorem bytesLess_iff : ∀ (x y : List UInt8), Op.bytesLess x y = decide (x < y)
  | [], [] => by simp [Op.bytesLess]
  | _ :: _, [] => by simp [Op.bytesLess]
  | [], _ :: _ => by simp [Op.bytesLess]
  | a :: x, b :: y => by
    rw [Op.bytesLess, bytesLess_iff x y]
    simp only [List.cons_lt_cons_iff]
    by_cases h1 : a < b <;> by_cases h2 : a = b <;> by_cases h3 : x < y <;> simp [h1, h2, h3]
theorem str_inj {a b : ByteArray} (h : a.toList = b.toList) : a = b := by
  rw [ByteArray.toList_eq, ByteArray.toList_eq] at h
  cases a; cases b
  simp at h
  simp [h]
/-- a < b, a ≤ b, as Go holds strings against each other. -/
def ltS (a b : ByteArray) : Bool := Op.bytesLess a.toList b.toList
def leS (a b : ByteArray) : Bool := Op.bytesLess a.toList b.toList || a.toList == b.toList
theorem lt_or_eq_of_le {a b : List UInt8} (h : a ≤ b) : a < b ∨ a = b := by
  by_cases k : a < b
  · exact .inl k
  · exact .inr (Std.le_antisymm h (Std.not_lt.1 k))
theorem ltS_iff (a b : ByteArray) : ltS a b = true ↔ a.toList < b.toList := by
  unfold ltS
  rw [bytesLess_iff, decide_eq_true_iff]
theorem leS_iff (a b : ByteArray) : leS a b = true ↔ a.toList ≤ b.toList := by
  unfold leS
  rw [bytesLess_iff, Bool.or_eq_true, decide_eq_true_iff, beq_iff_eq]
  constructor
  · rintro (h | h)
    · exact Std.le_of_lt h
    · rw [h]; exact Std.le_refl _
  · intro h
    rcases lt_or_eq_of_le h with h | h
    · exact .inl h
    · exact .inr h
theorem leS_refl (a : ByteArray) : leS a a = true := (leS_iff a a).2 (Std.le_refl _)
theorem leS_trans {a b c : ByteArray} (h : leS a b = true) (k : leS b c = true) : leS a c = true := (leS_iff _ _).2 (Std.le_trans ((leS_iff _ _).1 h) ((leS_iff _ _).1 k))
theorem leS_of_lt {a b : ByteArray} (h : ltS a b = true) : leS a b = true := (leS_iff _ _).2 (Std.le_of_lt ((ltS_iff _ _).1 h))
theorem ltS_trans {a b c : ByteArray} (h : ltS a b = true) (k : ltS b c = true) : ltS a c = true := (ltS_iff _ _).2 (Std.lt_trans ((ltS_iff _ _).1 h) ((ltS_iff _ _).1 k))
theorem leS_total (a b : ByteArray) : leS a b = true ∨ ltS b a = true := by
  rcases Std.le_total (a := a.toList) (b := b.toList) with h | h
  · exact .inl ((leS_iff _ _).2 h)
  · rcases lt_or_eq_of_le h with k | k
    · exact .inr ((ltS_iff _ _).2 k)
    · exact .inl ((leS_iff _ _).2 (k ▸ Std.le_refl _))
theorem not_leS {a b : ByteArray} : leS a b = false ↔ ltS b a = true := by
  constructor
  · intro h
    rcases leS_total a b with k | k
    · rw [k] at h; cases h
    · exact k
  · intro h
    cases k : leS a b with
    | false => rfl
    | true => exact absurd ((leS_iff _ _).1 k) (Std.not_le.2 ((ltS_iff _ _).1 h))
theorem ltS_irrefl (a : ByteArray) : ltS a a = false := by
  cases k : ltS a a with
  | false => rfl
  | true => exact absurd ((ltS_iff a a).1 k) (List.lt_irrefl _)
/-- Splits that rise. -/
def Rise (l : List ByteArray) : Prop := ∀ (i j : Nat) (a b : ByteArray), i < j → l[i]? = some a → l[j]? = some b → ltS a b = true
/-- Which shard has a key: how many splits aren't greater. -/
def shardOf (l : List ByteArray) (key : ByteArray) : Nat := l.countP (fun s => leS s key)
theorem shardOf_le (l : List ByteArray) (key : ByteArray) : shardOf l key ≤ l.length := List.countP_le_length
theorem rise_down {l : List ByteArray} (h : Rise l) (key : ByteArray) (i j : Nat) (a b : ByteArray) (hij : i ≤ j) (ha : l[i]? = some a) (hb : l[j]? = some b) (hk : leS b key = true) : leS a key = true := by
  have h' : ∀ (i j : Nat) (a b : ByteArray), i < j → l[i]? = some a → l[j]? = some b → ltS a b = true := h
  rcases Nat.lt_or_eq_of_le hij with x | x
  · exact leS_trans (leS_of_lt (h' i j a b x ha hb)) hk
  · subst x
    rw [ha] at hb
    cases hb
    exact hk
/-- A boundary is the count. -/
theorem countP_boundary {α : Type} (p : α → Bool) : ∀ (l : List α) (k : Nat), k ≤ l.length → (∀ i x, i < k → l[i]? = some x → p x = true) → (∀ i x, k ≤ i → l[i]? = some x → p x = false) → l.countP p = k := by
  intro l
  induction l with
  | nil => intro k hk _ _; simp at hk; simp [hk]
  | cons a l ih =>
    intro k hk h1 h2
    rw [List.countP_cons]
    cases k with
    | zero =>
      have ha : p a = false := h2 0 a (Nat.le_refl _) rfl
      rw [ih 0 (Nat.zero_le _) (fun i x hi => absurd hi (by omega)) (fun i x _ hx => h2 (i + 1) x (by omega) (by simpa using hx)), ha]
      rfl
    | succ k =>
      have ha : p a = true := h1 0 a (by omega) rfl
      rw [ih k (by simpa using hk) (fun i x hi hx => h1 (i + 1) x (by omega) (by simpa using hx)) (fun i x hi hx => h2 (i + 1) x (by omega) (by simpa using hx)), ha]
      rfl
end Go.Proofs.YtheecdjpbfkpdaaDoor
