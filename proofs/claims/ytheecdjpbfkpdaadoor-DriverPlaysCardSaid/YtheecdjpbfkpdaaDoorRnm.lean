/-
  Plain law: the document's Number is the program's.
-/
import Derived.Test.YtheecdjpbfkpdaaDoorNum
import Derived.Lib.ItoaMem
namespace Go.Proofs.YtheecdjpbfkpdaaDoor
open Go.RowKit
set_option linter.unusedSimpArgs false
set_option linter.unusedVariables false

def digR : Nat → List UInt8 → Option Nat
  | acc, [] => some acc
  | acc, c :: r => if 48 ≤ c.toNat ∧ c.toNat ≤ 57 then digR (acc * 10 + (c.toNat - 48)) r else none
theorem digR_le : ∀ (l : List UInt8) (acc n : Nat), digR acc l = some n → acc ≤ n
  | [], acc, n, h => by simp only [digR] at h; injection h with h; omega
  | c :: r, acc, n, h => by
    simp only [digR] at h
    split at h
    · have := digR_le r _ n h; omega
    · cases h
theorem digR_dec (u : Nat) : ∀ r : List UInt8, digR 0 (Lib.decDigits u ++ r) = digR u r := by
  induction u using Nat.strongRecOn with
  | _ u ih =>
    intro r
    by_cases h : u < 10
    · rw [Lib.decDigits, dif_pos h]
      have e : (UInt8.ofNat (48 + u)).toNat = 48 + u := by rw [UInt8.toNat_ofNat']; omega
      show digR 0 (UInt8.ofNat (48 + u) :: r) = _
      rw [digR, e, if_pos (by omega)]
      congr 1
      omega
    · rw [Lib.decDigits, dif_neg h, List.append_assoc, ih (u / 10) (by omega)]
      have e : (UInt8.ofNat (48 + u % 10)).toNat = 48 + u % 10 := by rw [UInt8.toNat_ofNat']; omega
      show digR (u / 10) (UInt8.ofNat (48 + u % 10) :: r) = _
      rw [digR, e, if_pos (by omega)]
      congr 1
      omega
theorem digR_dec0 (u : Nat) : digR 0 (Lib.decDigits u) = some u := by
  have := digR_dec u []
  rw [List.append_nil] at this
  exact this
theorem parse_of_dig : ∀ (l : List UInt8) (acc n : Nat), n < 100000000000000000 → digR acc l = some n → Lib.parseUint10 acc l = .ok n
  | [], acc, n, hn, h => by simp only [digR] at h; injection h with h; rw [Lib.parseUint10, h]
  | c :: r, acc, n, hn, h => by
    simp only [digR] at h
    split at h
    · rename_i hc
      have := digR_le r _ n h
      rw [Lib.parseUint10, if_pos hc, if_neg (by omega), if_neg (by omega)]
      exact parse_of_dig r _ n hn h
    · cases h
theorem dec_ne (u : Nat) : Lib.decDigits u ≠ [] := by
  intro h
  have := Lib.decDigits_length u
  have := Lib.nDigits_pos u
  rw [h] at *
  simp at *
  omega
theorem dec_len {u : Nat} (h : u < 10000000000000000) : (Lib.decDigits u).length ≤ 16 := by
  rw [Lib.decDigits_length]
  have aux : ∀ (k u : Nat), u < 10 ^ (k + 1) → Lib.nDigits u ≤ k + 1 := by
    intro k
    induction k with
    | zero => intro u hu; rw [Lib.nDigits_small (by simpa using hu)]; exact Nat.le_refl _
    | succ k ih =>
      intro u hu
      by_cases hs : u < 10
      · rw [Lib.nDigits_small hs]; omega
      · rw [Lib.nDigits_big hs]
        have := ih (u / 10) (by rw [Nat.pow_succ] at hu; omega)
        omega
  exact aux 15 u (by simpa using h)
/-- The first letter of a numeral is a digit. -/
theorem dec_head (u : Nat) : ∃ c r, Lib.decDigits u = c :: r ∧ 48 ≤ c.toNat ∧ c.toNat ≤ 57 := by
  have hd := digR_dec0 u
  cases h : Lib.decDigits u with
  | nil => exact absurd h (dec_ne u)
  | cons c r =>
    rw [h] at hd
    simp only [digR] at hd
    split at hd
    · rename_i hc; exact ⟨c, r, rfl, hc⟩
    · cases hd

/-- The document's number of a text. -/
def sgn (neg : Bool) (n : Nat) : Int := if neg = true then -(n : Int) else n
def numT (neg : Bool) (t : List UInt8) (s : ByteArray) : Int :=
  if t = [] ∨ 16 < t.length then 0
  else match digR 0 t with
    | none => 0
    | some n => if sgn neg n < -1125899906842624 ∨ 1125899906842624 < sgn neg n ∨ textS (sgn neg n) ≠ s then 0 else sgn neg n
def numR (s : ByteArray) : Int := if s.data.toList.head? = some 45 then numT true s.data.toList.tail s else numT false s.data.toList s
theorem numT_text {neg : Bool} {t : List UInt8} {s : ByteArray} {n : Nat} (hd : digR 0 t = some n) (ht : t ≠ []) (hl : t.length ≤ 16) (h0 : -1125899906842624 ≤ sgn neg n) (h1 : sgn neg n ≤ 1125899906842624) (hs : textS (sgn neg n) = s) : numT neg t s = sgn neg n := by
  unfold numT
  rw [if_neg (by rintro (h | h); exact ht h; omega), hd]
  simp only
  rw [if_neg]
  rintro (h | h | h)
  · omega
  · omega
  · exact h hs
theorem numT_zero {neg : Bool} {t : List UInt8} {s : ByteArray} (h : ¬ ∃ v, -1125899906842624 ≤ v ∧ v ≤ 1125899906842624 ∧ textS v = s) : numT neg t s = 0 := by
  unfold numT
  split
  · rfl
  · split
    · rfl
    · split
      · rfl
      · rename_i n hd hx
        refine absurd ⟨sgn neg n, ?_, ?_, ?_⟩ h
        · exact Int.not_lt.1 (fun e => hx (.inl e))
        · exact Int.not_lt.1 (fun e => hx (.inr (.inl e)))
        · exact Classical.byContradiction fun e => hx (.inr (.inr e))

theorem textS_list (v : Int) : (textS v).data.toList = Lib.itoa v := by unfold textS; simp
theorem numR_text (v : Int) (h0 : -1125899906842624 ≤ v) (h1 : v ≤ 1125899906842624) : numR (textS v) = v := by
  unfold numR
  rw [textS_list]
  by_cases hv : v < 0
  · have e : Lib.itoa v = 45 :: Lib.decDigits v.natAbs := by unfold Lib.itoa; rw [if_pos hv]
    rw [e, List.head?_cons, if_pos rfl, List.tail_cons]
    have ev : sgn true v.natAbs = v := by unfold sgn; rw [if_pos rfl]; omega
    rw [numT_text (digR_dec0 _) (dec_ne _) (dec_len (by omega)) (by omega) (by omega) (by rw [ev]), ev]
  · have e : Lib.itoa v = Lib.decDigits v.toNat := by unfold Lib.itoa; rw [if_neg hv]
    rw [e]
    obtain ⟨c, r, hc, c0, c1⟩ := dec_head v.toNat
    have hh : ¬ ((Lib.decDigits v.toNat).head? = some 45) := by
      rw [hc, List.head?_cons]
      intro h
      injection h with h
      rw [h] at c0
      exact absurd c0 (by decide)
    rw [if_neg hh]
    have ev : sgn false v.toNat = v := by unfold sgn; rw [if_neg (by decide)]; omega
    rw [numT_text (digR_dec0 _) (dec_ne _) (dec_len (by omega)) (by omega) (by omega) (by rw [ev]), ev]
theorem atoi_text (v : Int) (h0 : -1125899906842624 ≤ v) (h1 : v ≤ 1125899906842624) : Lib.atoiAll (textS v).data.toList = .ok v := by
  rw [textS_list]
  by_cases hv : v < 0
  · have e : Lib.itoa v = 45 :: Lib.decDigits v.natAbs := by unfold Lib.itoa; rw [if_pos hv]
    rw [e]
    have hp : Lib.parseMag (Lib.decDigits v.natAbs) = .ok v.natAbs := by
      unfold Lib.parseMag
      rw [if_neg (dec_ne _)]
      exact parse_of_dig _ _ _ (by omega) (digR_dec0 _)
    have e45 : (45 : UInt8).toNat = 45 := rfl
    simp only [Lib.atoiAll, e45]
    rw [if_pos (.inr trivial), hp]
    simp only [not_true_eq_false, false_and, if_false, true_and, if_true]
    rw [if_neg (by omega)]
    congr 1
    omega
  · have e : Lib.itoa v = Lib.decDigits v.toNat := by unfold Lib.itoa; rw [if_neg hv]
    rw [e]
    have hp : Lib.parseMag (Lib.decDigits v.toNat) = .ok v.toNat := by
      unfold Lib.parseMag
      rw [if_neg (dec_ne _)]
      exact parse_of_dig _ _ _ (by omega) (digR_dec0 _)
    obtain ⟨c, r, hc, c0, c1⟩ := dec_head v.toNat
    rw [hc] at hp ⊢
    simp only [Lib.atoiAll]
    rw [if_neg (by omega), hp]
    have hn2 : ¬ c.toNat = 45 := by omega
    simp only [hn2, not_false_eq_true, true_and, false_and, if_false]
    rw [if_neg (by omega)]
    congr 1
    omega
theorem numberS_text (v : Int) (h0 : -1125899906842624 ≤ v) (h1 : v ≤ 1125899906842624) : numberS (textS v) = v := by
  unfold numberS
  rw [atoi_text v h0 h1]
  simp only
  rw [if_pos ⟨trivial, by unfold clampI; omega⟩]
theorem numR_eq (s : ByteArray) : numR s = numberS s := by
  by_cases h : ∃ v, -1125899906842624 ≤ v ∧ v ≤ 1125899906842624 ∧ textS v = s
  · obtain ⟨v, h0, h1, rfl⟩ := h
    rw [numR_text v h0 h1, numberS_text v h0 h1]
  · have e1 : numR s = 0 := by
      unfold numR
      split <;> exact numT_zero h
    have e2 : numberS s = 0 := by
      unfold numberS
      split
      · split
        · rename_i v hv hx
          have hc := hx.2
          unfold clampI at hc
          exact absurd ⟨v, by omega, by omega, hx.1⟩ h
        · rfl
      · rfl
    rw [e1, e2]
end Go.Proofs.YtheecdjpbfkpdaaDoor
