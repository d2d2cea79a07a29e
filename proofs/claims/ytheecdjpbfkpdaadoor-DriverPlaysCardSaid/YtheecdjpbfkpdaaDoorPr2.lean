/-
  Walks: the plan's Right, the reference's Right, the law's right and few.
-/
import Derived.Test.YtheecdjpbfkpdaaDoorPr
namespace Go.Proofs.YtheecdjpbfkpdaaDoor
open Go.RowKit
set_option maxRecDepth 100000
set_option linter.unusedSimpArgs false
set_option linter.unusedVariables false

theorem size_empty (k : ByteArray) : k = ByteArray.empty ↔ (k.size : Int) = 0 := by
  constructor
  · rintro rfl; rfl
  · intro h
    have h0 : k.size = 0 := by omega
    cases k with
    | mk d => exact congrArg ByteArray.mk (Array.eq_empty_of_size_eq_zero h0)
theorem keyOk_iff (k : ByteArray) : keyOk k = true ↔ (k.size : Int) ≠ 0 ∧ (k.size : Int) ≤ 16 := by
  have h : k.toList = [] ↔ (k.size : Int) = 0 := by
    rw [← size_empty]
    have he : ByteArray.empty.toList = [] := by rw [ByteArray.toList_eq]; rfl
    exact ⟨fun h => str_inj (by rw [h, he]), by rintro rfl; exact he⟩
  simp only [keyOk, Bool.and_eq_true, Bool.not_eq_true', beq_eq_false_iff_ne, ne_eq, decide_eq_true_eq, h]
theorem opOk_iff (o : OpS) : opOk o = true ↔ o.kind = 6 ∨ ((o.key.size : Int) ≠ 0 ∧ (o.key.size : Int) ≤ 16 ∧ ((o.kind = 2 ∧ (o.value.size : Int) ≤ 32) ∨ (o.kind = 5 ∧ -1125899906842624 ≤ o.n ∧ o.n ≤ 1125899906842624) ∨ o.kind = 1 ∨ o.kind = 3 ∨ o.kind = 4)) := by
  unfold opOk
  have hk := keyOk_iff o.key
  split
  · simp_all
  · split
    · split
      · simp; omega
      · rw [hk]; omega
    · split
      · split
        · simp; omega
        · rw [hk]; omega
      · split
        · rw [hk]; omega
        · simp; omega
def rightOps (l : List OpS) : Int := if 16 < l.length then 4 else if l.all opOk then 0 else 1
def opD (l : List OpS) (k : Nat) : OpS := l.getD k OpS.zero
theorem opD_at {l : List OpS} {k : Nat} (h : k < l.length) : l[k]? = some (opD l k) := by
  unfold opD; rw [List.getD_eq_getElem?_getD, List.getElem?_eq_getElem h]; rfl
theorem all_ok {l : List OpS} (h : ∀ j, j < l.length → opOk (opD l j) = true) : l.all opOk = true := by
  rw [List.all_eq_true]
  intro x hx
  obtain ⟨j, hj⟩ := List.getElem?_of_mem hx
  have hlt := (List.getElem?_eq_some_iff.1 hj).1
  have := h j hlt
  rw [opD_at hlt] at hj
  injection hj with hj
  rw [← hj]; exact this
theorem not_all {l : List OpS} {k : Nat} (h : k < l.length) (hb : opOk (opD l k) = false) : l.all opOk = false := by
  rw [List.all_eq_false]
  exact ⟨_, List.mem_of_getElem? (opD_at h), by rw [hb]; simp⟩

set_option maxHeartbeats 1000000 in
theorem planRight_any (A : Option Addr) (c : Nat) (l : List OpS) (w : World) (hc : l.length ≤ c) (hr : Row w A l.length 4 (opRow l)) (hl : l.length ≤ 9223372036854775807) :
    Calls Tryd.prog 25 #[.slice A l.length c] w fun e w' => e = .returned (.int .i64 (rightOps l)) ∧ Below w.heap.size w w' := by
  have HR := Lib.hid hr
  clear hr
  by_cases h16 : 16 < l.length
  · have e1 : rightOps l = 4 := by unfold rightOps; rw [if_pos h16]
    rw [e1]
    clear e1
    go_enter Tryd.func25, Tryd.ntmps25
    go_wp2
    go_ret
    exact ⟨rfl, Below.refl _ _⟩
  · have he : rightOps l = if l.all opOk then 0 else 1 := by unfold rightOps; rw [if_neg h16]
    have HE := Lib.hid he
    clear he
    go_enter Tryd.func25, Tryd.ntmps25
    go_wp2
    go_loopw [4, 10] (fun s4 i wr => ∃ k : Nat, k ≤ l.length ∧ i = .int .i64 k ∧ Hid (∀ j, j < k → opOk (opD l j) = true) ∧ Hid (Below w.heap.size w wr)) (fun _ i _ => l.length - (intOf i).toNat)
    case atStart => exact ⟨0, Nat.zero_le _, rfl, fun j hj => absurd hj (by omega), Below.refl _ _⟩
    case round =>
      obtain ⟨k, hk, rfl, H, HB⟩ := hrel
      by_cases hlt : k < l.length
      · obtain ⟨ad, hA, q0, q1, q2, q3⟩ := (HR.out.below HB.out).op k _ (opD_at hlt)
        subst hA
        have HK : Hid (opOk (opD l k) = true → ∀ j, j < k + 1 → opOk (opD l j) = true) := fun h j hj => by
          by_cases hjk : j < k
          · exact H.out j hjk
          · obtain rfl : j = k := by omega
            exact h
        have HN := Lib.hid (fun h => not_all (l := l) (k := k) hlt h)
        have hbl := World.block_lt_of_cell? _ _ q0
        obtain ⟨o, ho⟩ : ∃ o, o = opD l k := ⟨_, rfl⟩
        rw [← ho] at q0 q1 q2 q3 HK HN
        clear ho
        go_wp2_with fail
        refine (opRight_any _ _ _ _ _).mono ?_
        rintro e w1 ⟨rfl, hb1⟩
        have HB1 := Lib.hid ((HB.out.alloc HB.out.size _).trans (hb1.mono (by have := HB.out.size; simp; omega)))
        have eo : (⟨o.kind, o.key, o.value, o.n⟩ : OpS) = o := rfl
        rw [eo]
        clear eo hb1 q0 q1 q2 q3
        cases hob : opOk o with
        | true =>
          have HZ := Lib.hid (HK.out hob)
          clear hob
          go_wp2_with fail
          go_roundw
          case rel => exact ⟨k + 1, by omega, by go_num, HZ.out, HB1.out⟩
          case measure => simp [intOf]; omega
        | false =>
          have he : rightOps l = 1 := by rw [HE.out, if_neg (by rw [HN.out hob]; simp)]
          have HZ := Lib.hid he
          clear he hob
          go_wp2_with fail
          go_ret
          rw [HZ.out]
          exact ⟨rfl, HB1.out⟩
      · obtain rfl : k = l.length := by omega
        have he : rightOps l = 0 := by rw [HE.out, if_pos (all_ok H.out)]
        have HZ := Lib.hid he
        clear he H
        go_wp2_with fail
        go_ret
        rw [HZ.out]
        exact ⟨rfl, HB.out⟩

set_option maxHeartbeats 4000000 in
theorem refRight_any (A : Option Addr) (c : Nat) (l : List OpS) (w : World) (hc : l.length ≤ c) (hr : Row w A l.length 4 (opRow l)) (hl : l.length ≤ 9223372036854775807) :
    Calls Tryd.prog 27 #[.slice A l.length c] w fun e w' => e = .returned (.int .i64 (rightOps l)) ∧ Below w.heap.size w w' := by
  have HR := Lib.hid hr
  clear hr
  by_cases h16 : 16 < l.length
  · have e1 : rightOps l = 4 := by unfold rightOps; rw [if_pos h16]
    rw [e1]
    clear e1
    go_enter Tryd.func27, Tryd.ntmps27
    go_wp2
    go_ret
    exact ⟨rfl, Below.refl _ _⟩
  · have he : rightOps l = if l.all opOk then 0 else 1 := by unfold rightOps; rw [if_neg h16]
    have HE := Lib.hid he
    clear he
    go_enter Tryd.func27, Tryd.ntmps27
    go_wp2
    go_loopw [4, 10] (fun s4 i wr => ∃ k : Nat, k ≤ l.length ∧ i = .int .i64 k ∧ Hid (∀ j, j < k → opOk (opD l j) = true) ∧ Hid (Below w.heap.size w wr)) (fun _ i _ => l.length - (intOf i).toNat)
    case atStart => exact ⟨0, Nat.zero_le _, rfl, fun j hj => absurd hj (by omega), Below.refl _ _⟩
    case round =>
      obtain ⟨k, hk, rfl, H, HB⟩ := hrel
      by_cases hlt : k < l.length
      · obtain ⟨ad, hA, q0, q1, q2, q3⟩ := (HR.out.below HB.out).op k _ (opD_at hlt)
        subst hA
        have HK : Hid (opOk (opD l k) = true → ∀ j, j < k + 1 → opOk (opD l j) = true) := fun h j hj => by
          by_cases hjk : j < k
          · exact H.out j hjk
          · obtain rfl : j = k := by omega
            exact h
        have HN := Lib.hid (fun h => not_all (l := l) (k := k) hlt h)
        have hbl := World.block_lt_of_cell? _ _ q0
        obtain ⟨o, ho⟩ : ∃ o, o = opD l k := ⟨_, rfl⟩
        rw [← ho] at q0 q1 q2 q3 HK HN
        clear ho
        have HI := opOk_iff o
        go_wp2
        all_goals first
          | (go_roundw
             case measure => simp [intOf]; omega
             case rel =>
               have hok : opOk o = true := by
                 rw [HI]; simp only [beq_iff_eq, beq_eq_false_iff_ne, ne_eq, size_empty] at *; omega
               refine ⟨k + 1, by omega, by go_num, HK.out hok, HB.out.alloc HB.out.size _⟩)
          | (have hok : opOk o = false := by
               rw [← Bool.not_eq_true, HI]; simp only [beq_iff_eq, beq_eq_false_iff_ne, ne_eq, size_empty] at *; omega
             have he : rightOps l = 1 := by rw [HE.out, if_neg (by rw [HN.out hok]; simp)]
             have HZ := Lib.hid he
             clear he hok
             go_ret
             rw [HZ.out]
             exact ⟨rfl, HB.out.alloc HB.out.size _⟩)
      · obtain rfl : k = l.length := by omega
        have he : rightOps l = 0 := by rw [HE.out, if_pos (all_ok H.out)]
        have HZ := Lib.hid he
        clear he H
        go_wp2_with fail
        go_ret
        rw [HZ.out]
        exact ⟨rfl, HB.out⟩

/-- What New and the law's right say. -/
def newCode (tx stamp tries : Int) (l : List OpS) : Int :=
  if tx < 0 ∨ 1048576 < tx ∨ stamp < 1 ∨ 1099511627776 < stamp ∨ tries < 1 ∨ 1048576 < tries then 1 else rightOps l

set_option maxHeartbeats 4000000 in
theorem lawRight_any (tx stamp tries : Int) (A : Option Addr) (c : Nat) (l : List OpS) (w : World) (hc : l.length ≤ c) (hr : Row w A l.length 4 (opRow l)) (hl : l.length ≤ 9223372036854775807) :
    Calls Tryd.prog 9 #[.int .i64 tx, .int .i64 stamp, .int .i64 tries, .slice A l.length c] w fun e w' => e = .returned (.int .i64 (newCode tx stamp tries l)) ∧ Below w.heap.size w w' := by
  have HR := Lib.hid hr
  clear hr
  have hw : tx < 0 ∨ (¬ tx < 0 ∧ 1048576 < tx) ∨ (¬ tx < 0 ∧ ¬ 1048576 < tx ∧ stamp < 1) ∨ (¬ tx < 0 ∧ ¬ 1048576 < tx ∧ ¬ stamp < 1 ∧ 1099511627776 < stamp) ∨ (¬ tx < 0 ∧ ¬ 1048576 < tx ∧ ¬ stamp < 1 ∧ ¬ 1099511627776 < stamp ∧ tries < 1) ∨ (¬ tx < 0 ∧ ¬ 1048576 < tx ∧ ¬ stamp < 1 ∧ ¬ 1099511627776 < stamp ∧ ¬ tries < 1 ∧ 1048576 < tries) ∨ (¬ tx < 0 ∧ ¬ 1048576 < tx ∧ ¬ stamp < 1 ∧ ¬ 1099511627776 < stamp ∧ ¬ tries < 1 ∧ ¬ 1048576 < tries) := by omega
  go_enter Tryd.func9, Tryd.ntmps9
  rcases hw with h1 | ⟨h1, h2⟩ | ⟨h1, h2, h3⟩ | ⟨h1, h2, h3, h4⟩ | ⟨h1, h2, h3, h4, h5⟩ | ⟨h1, h2, h3, h4, h5, h6⟩ | ⟨h1, h2, h3, h4, h5, h6⟩
  · go_wp2_with fail
    go_ret
    have he : newCode tx stamp tries l = 1 := by unfold newCode; rw [if_pos (by omega)]
    rw [he]
    exact ⟨rfl, Below.refl _ _⟩
  · go_wp2_with fail
    go_ret
    have he : newCode tx stamp tries l = 1 := by unfold newCode; rw [if_pos (by omega)]
    rw [he]
    exact ⟨rfl, Below.refl _ _⟩
  · go_wp2_with fail
    go_ret
    have he : newCode tx stamp tries l = 1 := by unfold newCode; rw [if_pos (by omega)]
    rw [he]
    exact ⟨rfl, Below.refl _ _⟩
  · go_wp2_with fail
    go_ret
    have he : newCode tx stamp tries l = 1 := by unfold newCode; rw [if_pos (by omega)]
    rw [he]
    exact ⟨rfl, Below.refl _ _⟩
  · go_wp2_with fail
    go_ret
    have he : newCode tx stamp tries l = 1 := by unfold newCode; rw [if_pos (by omega)]
    rw [he]
    exact ⟨rfl, Below.refl _ _⟩
  · go_wp2_with fail
    go_ret
    have he : newCode tx stamp tries l = 1 := by unfold newCode; rw [if_pos (by omega)]
    rw [he]
    exact ⟨rfl, Below.refl _ _⟩
  · go_wp2_with fail
    refine (refRight_any A c l w hc HR.out hl).mono ?_
    rintro e w1 ⟨rfl, hb⟩
    have HB := Lib.hid hb
    clear hb
    have he : newCode tx stamp tries l = rightOps l := by unfold newCode; rw [if_neg (by omega)]
    have HE := Lib.hid he
    clear he
    go_wp2_with fail
    go_ret
    rw [HE.out]
    exact ⟨rfl, HB.out⟩

/-- What the law takes: few operations, all with short strings. -/
def fewB (l : List OpS) : Bool := l.all (fun o => decide ((o.key.size : Int) ≤ 100) && decide ((o.value.size : Int) ≤ 100)) && decide ((l.length : Int) ≤ 30)
theorem few_no {l : List OpS} {k : Nat} (h : k < l.length) (hb : ¬ (((opD l k).key.size : Int) ≤ 100 ∧ ((opD l k).value.size : Int) ≤ 100)) : fewB l = false := by
  unfold fewB
  rw [Bool.and_eq_false_iff]
  left
  rw [List.all_eq_false]
  refine ⟨_, List.mem_of_getElem? (opD_at h), ?_⟩
  simp only [Bool.and_eq_true, decide_eq_true_eq]
  exact hb
theorem few_all {l : List OpS} (h : ∀ j, j < l.length → ((opD l j).key.size : Int) ≤ 100 ∧ ((opD l j).value.size : Int) ≤ 100) : fewB l = decide ((l.length : Int) ≤ 30) := by
  unfold fewB
  rw [List.all_eq_true.2 ?_, Bool.true_and]
  intro x hx
  obtain ⟨j, hj⟩ := List.getElem?_of_mem hx
  have hlt := (List.getElem?_eq_some_iff.1 hj).1
  have := h j hlt
  rw [opD_at hlt] at hj
  injection hj with hj
  rw [← hj]; simp only [Bool.and_eq_true, decide_eq_true_eq]; exact this

set_option maxHeartbeats 4000000 in
theorem few_any (A : Option Addr) (c : Nat) (l : List OpS) (w : World) (hc : l.length ≤ c) (hr : Row w A l.length 4 (opRow l)) (hl : l.length ≤ 9223372036854775807) :
    Calls Tryd.prog 6 #[.slice none 0 0, .slice A l.length c] w fun e w' => e = .returned (.bool (fewB l)) ∧ Below w.heap.size w w' := by
  have HR := Lib.hid hr
  clear hr
  go_enter Tryd.func6, Tryd.ntmps6
  go_wp2
  go_loopw [4, 11] (fun s4 i wr => i = .int .i64 0 ∧ Hid (Below w.heap.size w wr)) (fun _ i _ => 0)
  case atStart => exact ⟨rfl, Below.refl _ _⟩
  case round =>
    obtain ⟨rfl, HB⟩ := hrel
    go_wp2
    go_loopw [4, 21] (fun s4 i wr => ∃ k : Nat, k ≤ l.length ∧ i = .int .i64 k ∧ Hid (∀ j, j < k → ((opD l j).key.size : Int) ≤ 100 ∧ ((opD l j).value.size : Int) ≤ 100) ∧ Hid (Below w.heap.size w wr)) (fun _ i _ => l.length - (intOf i).toNat)
    case atStart => exact ⟨0, Nat.zero_le _, rfl, fun j hj => absurd hj (by omega), HB.out⟩
    case round =>
      obtain ⟨k, hk, rfl, H, HB⟩ := hrel
      by_cases hlt : k < l.length
      · obtain ⟨ad, hA, q0, q1, q2, q3⟩ := (HR.out.below HB.out).op k _ (opD_at hlt)
        subst hA
        have HK : Hid (((opD l k).key.size : Int) ≤ 100 ∧ ((opD l k).value.size : Int) ≤ 100 → ∀ j, j < k + 1 → ((opD l j).key.size : Int) ≤ 100 ∧ ((opD l j).value.size : Int) ≤ 100) := fun h j hj => by
          by_cases hjk : j < k
          · exact H.out j hjk
          · obtain rfl : j = k := by omega
            exact h
        have HN := Lib.hid (fun h => few_no (l := l) (k := k) hlt h)
        have hbl := World.block_lt_of_cell? _ _ q0
        obtain ⟨o, ho⟩ : ∃ o, o = opD l k := ⟨_, rfl⟩
        rw [← ho] at q0 q1 q2 q3 HK HN
        clear ho
        go_wp2
        all_goals first
          | (go_roundw
             case measure => simp [intOf]; omega
             case rel => exact ⟨k + 1, by omega, by go_num, HK.out (by omega), HB.out.alloc HB.out.size _⟩)
          | (have he : fewB l = false := HN.out (by omega)
             have HZ := Lib.hid he
             clear he
             go_ret
             rw [HZ.out]
             exact ⟨rfl, HB.out.alloc HB.out.size _⟩)
      · obtain rfl : k = l.length := by omega
        have he : fewB l = decide ((l.length : Int) ≤ 30) := few_all H.out
        have HZ := Lib.hid he
        clear he H
        go_wp2
        all_goals
          go_ret
          rw [HZ.out]
          refine ⟨?_, HB.out⟩
          first | rfl | (simp; omega)
end Go.Proofs.YtheecdjpbfkpdaaDoor
