/-
  Walks of the document's functions: a text's number.
-/
import Derived.Test.YtheecdjpbfkpdaaDoorRw2
namespace Go.Proofs.YtheecdjpbfkpdaaDoor
open Go.RowKit
set_option maxRecDepth 100000
set_option linter.unusedSimpArgs false
set_option linter.unusedVariables false

theorem digR_append : ∀ (a b : List UInt8) (acc : Nat), digR acc (a ++ b) = (digR acc a).bind fun m => digR m b
  | [], b, acc => by simp [digR]
  | c :: a, b, acc => by
    simp only [List.cons_append, digR]
    split
    · exact digR_append a b _
    · rfl
theorem digR_lt : ∀ (l : List UInt8) (acc n : Nat), digR acc l = some n → n + 1 ≤ (acc + 1) * 10 ^ l.length
  | [], acc, n, h => by simp only [digR] at h; injection h with h; simp; omega
  | c :: r, acc, n, h => by
    simp only [digR] at h
    split at h
    · have h1 := digR_lt r _ n h
      have h2 : (acc * 10 + (c.toNat - 48) + 1) * 10 ^ r.length ≤ ((acc + 1) * 10) * 10 ^ r.length := Nat.mul_le_mul_right _ (by omega)
      rw [List.length_cons, Nat.pow_succ]
      calc n + 1 ≤ _ := h1
        _ ≤ _ := h2
        _ = (acc + 1) * (10 ^ r.length * 10) := by rw [Nat.mul_assoc, Nat.mul_comm 10]
    · cases h
theorem digR_bound {l : List UInt8} {n : Nat} (hl : l.length ≤ 16) (h : digR 0 l = some n) : n ≤ 10000000000000000 := by
  have h1 := digR_lt l 0 n h
  have h2 : (10 : Nat) ^ l.length ≤ 10 ^ 16 := Nat.pow_le_pow_right (by omega) hl
  have h3 : (10 : Nat) ^ 16 = 10000000000000000 := by decide
  omega
theorem take_snocB (s : ByteArray) (k : Nat) (h : k < s.size) : s.data.toList.take (k + 1) = s.data.toList.take k ++ [s[k]] := by
  rw [List.take_succ_eq_append_getElem (by simpa using h)]; rfl
theorem digR_step {t : ByteArray} {k m : Nat} (h : k < t.size) (hd : digR 0 (t.data.toList.take k) = some m) : digR 0 (t.data.toList.take (k + 1)) = if 48 ≤ t[k].toNat ∧ t[k].toNat ≤ 57 then some (m * 10 + (t[k].toNat - 48)) else none := by
  rw [take_snocB t k h, digR_append, hd]
  simp [digR]
theorem digR_stop {t : ByteArray} {k : Nat} (hd : digR 0 (t.data.toList.take k) = none) : digR 0 t.data.toList = none := by
  rw [← List.take_append_drop k t.data.toList, digR_append, hd]; rfl
theorem size_list (s : ByteArray) : s.data.toList.length = s.size := by rw [Array.length_toList]; rfl
theorem numR_minus {s t : ByteArray} {c : UInt8} (h : s.data.toList = c :: t.data.toList) (hc : c = 45) : numR s = numT true t.data.toList s := by
  unfold numR; rw [h, hc, List.head?_cons, if_pos rfl, List.tail_cons]
theorem numR_plain {s : ByteArray} (h : s.data.toList.head? ≠ some 45) : numR s = numT false s.data.toList s := by
  unfold numR; rw [if_neg h]
theorem numT_some {neg : Bool} {t : List UInt8} {s : ByteArray} {n : Nat} (h0 : t ≠ []) (hl : t.length ≤ 16) (hd : digR 0 t = some n) : numT neg t s = if sgn neg n < -1125899906842624 ∨ 1125899906842624 < sgn neg n ∨ textS (sgn neg n) ≠ s then 0 else sgn neg n := by
  unfold numT
  rw [if_neg (by rintro (h | h); exact h0 h; omega), hd]
theorem numT_none {neg : Bool} {t : List UInt8} {s : ByteArray} (hd : digR 0 t = none) : numT neg t s = 0 := by
  unfold numT
  rw [hd]
  split <;> rfl
theorem numT_long {neg : Bool} {t : List UInt8} {s : ByteArray} (h : t = [] ∨ 16 < t.length) : numT neg t s = 0 := by
  unfold numT
  rw [if_pos h]
theorem toList_beq_true {a b : ByteArray} (h : a = b) : (a.toList == b.toList) = true := by subst h; simp
theorem toList_beq_false {a b : ByteArray} (h : a ≠ b) : (a.toList == b.toList) = false := by
  rw [beq_eq_false_iff_ne]
  exact fun e => h (str_inj e)

set_option maxHeartbeats 2000000 in
theorem refNumber_empty (s : ByteArray) (hs : s.size = 0) (w : World) :
    Calls Tryd.prog 48 #[.string s] w fun e w' => e = .returned (.int .i64 (numR s)) ∧ Below w.heap.size w w' := by
  have hl : s.data.toList = [] := List.length_eq_zero_iff.1 ((size_list s).trans hs)
  have hn : numR s = 0 := by rw [numR_plain (by rw [hl]; simp), numT_long (.inl hl)]
  have HN := Lib.hid hn
  have h1 : ¬ (0 : Int) < s.size := by omega
  clear hn hl
  go_enter Tryd.func48, Tryd.ntmps48
  go_wp2
  all_goals first
    | (go_ret
       rw [HN.out]
       exact ⟨rfl, Below.refl _ _⟩)
    | omega

set_option maxHeartbeats 4000000 in
theorem refNumber_minus (s : ByteArray) (hs : s.size ≤ 281474976710656) (h0 : 0 < s.size) (t : ByteArray) (hst : s.data.toList = s[0] :: t.data.toList) (hx : s.extract 1 s.size = t) (h45 : s[0] = 45) (w : World) :
    Calls Tryd.prog 48 #[.string s] w fun e w' => e = .returned (.int .i64 (numR s)) ∧ Below w.heap.size w w' := by
  have hn : numR s = numT true t.data.toList s := numR_minus hst h45
  have hts : t.size + 1 = s.size := by
    have := congrArg List.length hst
    rw [size_list, List.length_cons, size_list] at this
    omega
  have hb0 : ((s[0].toNat : Int) == 45) = true := by rw [h45]; rfl
  have HX := Lib.hid hx
  clear hst hx h45
  have HN := Lib.hid hn
  clear hn
  go_enter Tryd.func48, Tryd.ntmps48
  by_cases hlong : t.size = 0 ∨ 16 < t.size
  · have hz : numR s = 0 := by
      rw [HN.out, numT_long]
      rcases hlong with h | h
      · exact .inl (List.length_eq_zero_iff.1 ((size_list t).trans h))
      · exact .inr (by rw [size_list]; exact h)
    have HZ := Lib.hid hz
    clear hz
    go_wp2
    all_goals first
      | (go_ret
         rw [HZ.out]
         exact ⟨rfl, Below.refl _ _⟩)
      | (exfalso; simp only [beq_iff_eq, beq_eq_false_iff_ne, ne_eq] at *; omega)
  have hl0 : 0 < t.size := by omega
  have hl16 : t.size ≤ 16 := by omega
  have z0 : (((s.size - 1 : Nat) : Int) == 0) = false := by rw [beq_eq_false_iff_ne]; omega
  have z1 : decide (16 < ((s.size - 1 : Nat) : Int)) = false := by rw [decide_eq_false_iff_not]; omega
  clear hlong
  go_wp2
  rw [HX.out]
  clear hb0 z0 z1
  go_loop [2, 4, 5] (fun r n i => ∃ k m : Nat, k ≤ t.size ∧ i = .int .i64 k ∧ n = .int .i64 m ∧ m ≤ 10000000000000000 ∧ Hid (digR 0 (t.data.toList.take k) = some m)) (fun _ _ i => t.size - (intOf i).toNat)
  case atStart => exact ⟨0, 0, Nat.zero_le _, rfl, rfl, by omega, Lib.hid (by simp [digR])⟩
  case round =>
    obtain ⟨k, m, hk, rfl, rfl, hm, HD⟩ := hrel
    by_cases hlt : k < t.size
    · have HS := Lib.hid (digR_step hlt HD.out)
      have hb : t[k].toNat < 256 := UInt8.toNat_lt _
      go_wp2
      all_goals first
        | (go_round
           case measure => simp [intOf]; omega
           case rel =>
             have hd : 48 ≤ t[k].toNat ∧ t[k].toNat ≤ 57 := by omega
             have hn := HS.out
             rw [if_pos hd] at hn
             have hbd := digR_bound (by rw [List.length_take, size_list]; omega) hn
             exact ⟨k + 1, m * 10 + (t[k].toNat - 48), by omega, by go_num, congrArg (Value.int .i64) (by omega), hbd, Lib.hid hn⟩)
        | (have hd : ¬ (48 ≤ t[k].toNat ∧ t[k].toNat ≤ 57) := by omega
           have hz : numR s = 0 := by
             have hn := HS.out
             rw [if_neg hd] at hn
             rw [HN.out, numT_none (digR_stop hn)]
           have HZ := Lib.hid hz
           clear hz
           go_ret
           rw [HZ.out]
           exact ⟨rfl, Below.refl _ _⟩)
    · have hd : digR 0 t.data.toList = some m := by
        have := HD.out
        rwa [List.take_of_length_le (by rw [size_list]; omega)] at this
      have hne : t.data.toList ≠ [] := fun h => by
        have := size_list t
        rw [h] at this
        simp at this
        omega
      have hv : numR s = if -(m : Int) < -1125899906842624 ∨ 1125899906842624 < -(m : Int) ∨ textS (-(m : Int)) ≠ s then 0 else -(m : Int) := by
        rw [HN.out, numT_some hne (by rw [size_list]; exact hl16) hd]
        rfl
      have HV := Lib.hid hv
      clear hv hd hne HD
      by_cases b1 : -(m : Int) < -1125899906842624
      · have HZ : Hid (numR s = 0) := HV.out.trans (if_pos (.inl b1))
        go_wp2
        go_ret
        rw [HZ.out]
        exact ⟨rfl, Below.refl _ _⟩
      by_cases b2 : 1125899906842624 < -(m : Int)
      · have HZ : Hid (numR s = 0) := HV.out.trans (if_pos (.inr (.inl b2)))
        go_wp2
        all_goals
          go_ret
          rw [HZ.out]
          exact ⟨rfl, Below.refl _ _⟩
      go_wp2_with fail
      refine (refText_any _ (by omega) (by omega) _).mono ?_
      rintro e w1 ⟨rfl, hb⟩
      have HB := Lib.hid hb
      clear hb
      by_cases b3 : textS (-(m : Int)) = s
      · have HZ : Hid (numR s = -(m : Int)) := HV.out.trans (if_neg (by rintro (h | h | h); omega; omega; exact h b3))
        have hq := toList_beq_true b3
        clear b3
        go_wp2
        go_ret
        rw [HZ.out]
        exact ⟨rfl, HB.out⟩
      · have HZ : Hid (numR s = 0) := HV.out.trans (if_pos (.inr (.inr b3)))
        have hq := toList_beq_false b3
        clear b3
        go_wp2
        go_ret
        rw [HZ.out]
        exact ⟨rfl, HB.out⟩

set_option maxHeartbeats 4000000 in
theorem refNumber_plain (s : ByteArray) (hs : s.size ≤ 281474976710656) (h0 : 0 < s.size) (h45 : s[0] ≠ 45) (w : World) :
    Calls Tryd.prog 48 #[.string s] w fun e w' => e = .returned (.int .i64 (numR s)) ∧ Below w.heap.size w w' := by
  have hn : numR s = numT false s.data.toList s := by
    refine numR_plain ?_
    have hg : s.data.toList.head? = some s[0] := by
      rw [List.head?_eq_getElem?, List.getElem?_eq_getElem (by rw [size_list]; exact h0)]; rfl
    rw [hg]
    intro h
    injection h with h
    exact h45 h
  have hb0 : ((s[0].toNat : Int) == 45) = false := by
    rw [beq_eq_false_iff_ne]
    intro h
    refine h45 (UInt8.toNat_inj.1 ?_)
    have e : (45 : UInt8).toNat = 45 := rfl
    rw [e]
    omega
  clear h45
  have HN := Lib.hid hn
  clear hn
  go_enter Tryd.func48, Tryd.ntmps48
  by_cases hlong : s.size = 0 ∨ 16 < s.size
  · have hz : numR s = 0 := by
      rw [HN.out, numT_long]
      rcases hlong with h | h
      · exact .inl (List.length_eq_zero_iff.1 ((size_list s).trans h))
      · exact .inr (by rw [size_list]; exact h)
    have HZ := Lib.hid hz
    clear hz
    go_wp2
    all_goals first
      | (go_ret
         rw [HZ.out]
         exact ⟨rfl, Below.refl _ _⟩)
      | (exfalso; simp only [beq_iff_eq, beq_eq_false_iff_ne, ne_eq] at *; omega)
  have hl0 : 0 < s.size := by omega
  have hl16 : s.size ≤ 16 := by omega
  have z0 : ((s.size : Int) == 0) = false := by rw [beq_eq_false_iff_ne]; omega
  have z1 : decide (16 < (s.size : Int)) = false := by rw [decide_eq_false_iff_not]; omega
  clear hlong
  go_wp2
  clear hb0 z0 z1
  go_loop [2, 4, 5] (fun r n i => ∃ k m : Nat, k ≤ s.size ∧ i = .int .i64 k ∧ n = .int .i64 m ∧ m ≤ 10000000000000000 ∧ Hid (digR 0 (s.data.toList.take k) = some m)) (fun _ _ i => s.size - (intOf i).toNat)
  case atStart => exact ⟨0, 0, Nat.zero_le _, rfl, rfl, by omega, Lib.hid (by simp [digR])⟩
  case round =>
    obtain ⟨k, m, hk, rfl, rfl, hm, HD⟩ := hrel
    by_cases hlt : k < s.size
    · have HS := Lib.hid (digR_step hlt HD.out)
      have hb : s[k].toNat < 256 := UInt8.toNat_lt _
      go_wp2
      all_goals first
        | (go_round
           case measure => simp [intOf]; omega
           case rel =>
             have hd : 48 ≤ s[k].toNat ∧ s[k].toNat ≤ 57 := by omega
             have hn := HS.out
             rw [if_pos hd] at hn
             have hbd := digR_bound (by rw [List.length_take, size_list]; omega) hn
             exact ⟨k + 1, m * 10 + (s[k].toNat - 48), by omega, by go_num, congrArg (Value.int .i64) (by omega), hbd, Lib.hid hn⟩)
        | (have hd : ¬ (48 ≤ s[k].toNat ∧ s[k].toNat ≤ 57) := by omega
           have hz : numR s = 0 := by
             have hn := HS.out
             rw [if_neg hd] at hn
             rw [HN.out, numT_none (digR_stop hn)]
           have HZ := Lib.hid hz
           clear hz
           go_ret
           rw [HZ.out]
           exact ⟨rfl, Below.refl _ _⟩)
    · have hd : digR 0 s.data.toList = some m := by
        have := HD.out
        rwa [List.take_of_length_le (by rw [size_list]; omega)] at this
      have hne : s.data.toList ≠ [] := fun h => by
        have := size_list s
        rw [h] at this
        simp at this
        omega
      have hv : numR s = if (m : Int) < -1125899906842624 ∨ 1125899906842624 < (m : Int) ∨ textS ((m : Int)) ≠ s then 0 else (m : Int) := by
        rw [HN.out, numT_some hne (by rw [size_list]; exact hl16) hd]
        rfl
      have HV := Lib.hid hv
      clear hv hd hne HD
      by_cases b1 : (m : Int) < -1125899906842624
      · have HZ : Hid (numR s = 0) := HV.out.trans (if_pos (.inl b1))
        go_wp2
        go_ret
        rw [HZ.out]
        exact ⟨rfl, Below.refl _ _⟩
      by_cases b2 : 1125899906842624 < (m : Int)
      · have HZ : Hid (numR s = 0) := HV.out.trans (if_pos (.inr (.inl b2)))
        go_wp2
        all_goals
          go_ret
          rw [HZ.out]
          exact ⟨rfl, Below.refl _ _⟩
      go_wp2_with fail
      refine (refText_any _ (by omega) (by omega) _).mono ?_
      rintro e w1 ⟨rfl, hb⟩
      have HB := Lib.hid hb
      clear hb
      by_cases b3 : textS ((m : Int)) = s
      · have HZ : Hid (numR s = (m : Int)) := HV.out.trans (if_neg (by rintro (h | h | h); omega; omega; exact h b3))
        have hq := toList_beq_true b3
        clear b3
        go_wp2
        go_ret
        rw [HZ.out]
        exact ⟨rfl, HB.out⟩
      · have HZ : Hid (numR s = 0) := HV.out.trans (if_pos (.inr (.inr b3)))
        have hq := toList_beq_false b3
        clear b3
        go_wp2
        go_ret
        rw [HZ.out]
        exact ⟨rfl, HB.out⟩

theorem refNumber_any (s : ByteArray) (hs : s.size ≤ 281474976710656) (w : World) :
    Calls Tryd.prog 48 #[.string s] w fun e w' => e = .returned (.int .i64 (numR s)) ∧ Below w.heap.size w w' := by
  by_cases h0 : s.size = 0
  · exact refNumber_empty s h0 w
  · have h0' : 0 < s.size := by omega
    by_cases h45 : s[0] = 45
    · refine refNumber_minus s hs h0' (s.extract 1 s.size) ?_ rfl h45 w
      have h1 : (s.extract 1 s.size).data.toList = s.data.toList.drop 1 := by
        rw [ByteArray.data_extract, Array.toList_extract, List.extract_eq_take_drop, List.take_of_length_le (by rw [List.length_drop, size_list]; omega)]
      rw [h1]
      have h2 : s.data.toList = s.data.toList.take 1 ++ s.data.toList.drop 1 := (List.take_append_drop 1 _).symm
      have h3 := take_snocB s 0 h0'
      rw [List.take_zero, List.nil_append, Nat.zero_add] at h3
      rw [h3] at h2
      exact h2
    · exact refNumber_plain s hs h0' h45 w
end Go.Proofs.YtheecdjpbfkpdaaDoor
