/-
  Walks: slices.Clone at the instances that the driver uses; route.New.
-/
import Derived.Test.YtheecdjpbfkpdaaDoorRt
namespace Go.Proofs.YtheecdjpbfkpdaaDoor
open Go.RowKit
set_option maxRecDepth 100000
set_option linter.unusedSimpArgs false
set_option linter.unusedVariables false

theorem info_str : (Tryd.prog.info? 9).map (fun i => (i.zero, i.size, i.bytes)) = some (some (.string ⟨#[]⟩), 1, 16) := by kernel_rfl
theorem info_op : (Tryd.prog.info? 60).map (fun i => (i.zero, i.size, i.bytes)) = some (some (.agg #[.int .i64 0, .string ⟨#[]⟩, .string ⟨#[]⟩, .int .i64 0]), 4, 48) := by kernel_rfl
theorem info_rs : (Tryd.prog.info? 52).map (fun i => (i.zero, i.size, i.bytes)) = some (some (.agg #[.string ⟨#[]⟩, .bool false]), 2, 24) := by kernel_rfl
theorem one_strs (l : List ByteArray) : ∀ u ∈ strRow l, u.oneCell' = true := by
  intro u hu
  simp only [strRow, List.mem_map] at hu
  obtain ⟨x, _, rfl⟩ := hu
  rfl
theorem one_ops (l : List OpS) : ∀ u ∈ opRow l, u.oneCell' = true := by
  intro u hu
  simp only [opRow, List.mem_flatMap, opCells] at hu
  obtain ⟨x, _, hx⟩ := hu
  simp at hx
  rcases hx with rfl | rfl | rfl | rfl <;> rfl
theorem one_ress (l : List ResS) : ∀ u ∈ resRow l, u.oneCell' = true := by
  intro u hu
  simp only [resRow, List.mem_flatMap, resCells] at hu
  obtain ⟨x, _, hx⟩ := hu
  simp at hx
  rcases hx with rfl | rfl <;> rfl

/-- A clone: a row of the call's own with the same cells. -/
theorem cloneStr_any (A : Option Addr) (c : Nat) (l : List ByteArray) (w : World) (hA : A = none ∨ ∃ b off, A = some ⟨b, off, none⟩) (hr : Row w A l.length 1 (strRow l)) (hl : l.length ≤ 4096) :
    Calls Tryd.prog 24 #[.slice A l.length c] w fun e w' => ∃ v', e = .returned v' ∧ w'.ownsRow w.heap.size 9 1 v' l.length (strRow l) ∧ Below w.heap.size w w' := by
  obtain ⟨i0, hi, hz0, hz1, hz2⟩ := info_parts info_str
  rcases hA with rfl | ⟨b, off, rfl⟩
  · have h0 : l.length = 0 := by
      rcases Nat.eq_zero_or_pos l.length with h | h
      · exact h
      · obtain ⟨ad, h, _⟩ := hr.2 h; cases h
    have hl0 : l = [] := List.eq_nil_of_length_eq_zero h0
    subst hl0
    refine (AnyE.slices_Clone_nil Tryd.laysCloneStr 0 c w).mono ?_
    rintro e w' ⟨rfl, rfl⟩
    exact ⟨_, rfl, World.ownsRow_nil _ _ _ _, Below.refl _ _⟩
  · refine (AnyE.slices_Clone Tryd.laysCloneStr i0 _ 1 16 hi hz0 hz1 hz2 rfl (by decide) (fun w => by kernel_rfl) b off l.length c (strRow l) w (strRow_length l) (by unfold maxLen; omega) (by omega) ?_ (one_strs l)).mono ?_
    · intro j u hj
      have hlt := (List.getElem?_eq_some_iff.1 hj).1
      rw [strRow_length] at hlt
      obtain ⟨ad, h, hc⟩ := hr.2 (by omega)
      injection h with h
      subst h
      have := hc j u hj
      rwa [show (⟨b, off, none⟩ : Addr).add j = ⟨b, off + j, none⟩ from by unfold Addr.add; split <;> simp_all] at this
    · rintro e w' ⟨v', rfl, ho, _, hb⟩
      exact ⟨v', rfl, ho, hb⟩
theorem cloneOp_any (A : Option Addr) (c : Nat) (l : List OpS) (w : World) (hA : A = none ∨ ∃ b off, A = some ⟨b, off, none⟩) (hr : Row w A l.length 4 (opRow l)) (hl : l.length ≤ 4096) :
    Calls Tryd.prog 26 #[.slice A l.length c] w fun e w' => ∃ v', e = .returned v' ∧ w'.ownsRow w.heap.size 60 4 v' l.length (opRow l) ∧ Below w.heap.size w w' := by
  obtain ⟨i0, hi, hz0, hz1, hz2⟩ := info_parts info_op
  rcases hA with rfl | ⟨b, off, rfl⟩
  · have h0 : l.length = 0 := by
      rcases Nat.eq_zero_or_pos l.length with h | h
      · exact h
      · obtain ⟨ad, h, _⟩ := hr.2 h; cases h
    have hl0 : l = [] := List.eq_nil_of_length_eq_zero h0
    subst hl0
    refine (AnyE.slices_Clone_nil Tryd.laysCloneOp 0 c w).mono ?_
    rintro e w' ⟨rfl, rfl⟩
    exact ⟨_, rfl, World.ownsRow_nil _ _ _ _, Below.refl _ _⟩
  · refine (AnyE.slices_Clone Tryd.laysCloneOp i0 _ 4 48 hi hz0 hz1 hz2 rfl (by decide) (fun w => by kernel_rfl) b off l.length c (opRow l) w (opRow_length l) (by unfold maxLen; omega) (by omega) ?_ (one_ops l)).mono ?_
    · intro j u hj
      have hlt := (List.getElem?_eq_some_iff.1 hj).1
      rw [opRow_length] at hlt
      obtain ⟨ad, h, hc⟩ := hr.2 (by omega)
      injection h with h
      subst h
      have := hc j u hj
      rwa [show (⟨b, off, none⟩ : Addr).add j = ⟨b, off + j, none⟩ from by unfold Addr.add; split <;> simp_all] at this
    · rintro e w' ⟨v', rfl, ho, _, hb⟩
      exact ⟨v', rfl, ho, hb⟩
theorem cloneRes_any (A : Option Addr) (c : Nat) (l : List ResS) (w : World) (hA : A = none ∨ ∃ b off, A = some ⟨b, off, none⟩) (hr : Row w A l.length 2 (resRow l)) (hl : l.length ≤ 4096) :
    Calls Tryd.prog 40 #[.slice A l.length c] w fun e w' => ∃ v', e = .returned v' ∧ w'.ownsRow w.heap.size 52 2 v' l.length (resRow l) ∧ Below w.heap.size w w' := by
  obtain ⟨i0, hi, hz0, hz1, hz2⟩ := info_parts info_rs
  rcases hA with rfl | ⟨b, off, rfl⟩
  · have h0 : l.length = 0 := by
      rcases Nat.eq_zero_or_pos l.length with h | h
      · exact h
      · obtain ⟨ad, h, _⟩ := hr.2 h; cases h
    have hl0 : l = [] := List.eq_nil_of_length_eq_zero h0
    subst hl0
    refine (AnyE.slices_Clone_nil Tryd.laysCloneRes 0 c w).mono ?_
    rintro e w' ⟨rfl, rfl⟩
    exact ⟨_, rfl, World.ownsRow_nil _ _ _ _, Below.refl _ _⟩
  · refine (AnyE.slices_Clone Tryd.laysCloneRes i0 _ 2 24 hi hz0 hz1 hz2 rfl (by decide) (fun w => by kernel_rfl) b off l.length c (resRow l) w (resRow_length l) (by unfold maxLen; omega) (by omega) ?_ (one_ress l)).mono ?_
    · intro j u hj
      have hlt := (List.getElem?_eq_some_iff.1 hj).1
      rw [resRow_length] at hlt
      obtain ⟨ad, h, hc⟩ := hr.2 (by omega)
      injection h with h
      subst h
      have := hc j u hj
      rwa [show (⟨b, off, none⟩ : Addr).add j = ⟨b, off + j, none⟩ from by unfold Addr.add; split <;> simp_all] at this
    · rintro e w' ⟨v', rfl, ho, _, hb⟩
      exact ⟨v', rfl, ho, hb⟩

/-- A map with these splits, from block B on. -/
structure IsMap (w : World) (B gm : Nat) (l : List ByteArray) : Prop where
  out : ∃ A c, B ≤ gm ∧ Blk w gm 63 #[.slice A l.length c] ∧ w.ownsRow B 9 1 (.slice A l.length c) l.length (strRow l)
theorem IsMap.below {w w' : World} {B gm : Nat} {l : List ByteArray} (h : IsMap w B gm l) (hb : Below w.heap.size w w') : IsMap w' B gm l := by
  obtain ⟨A, c, h1, h2, h3⟩ := h.out
  exact ⟨A, c, h1, h2.below hb h2.lt, own_below h3 hb⟩
theorem IsMap.lower {w : World} {B B' gm : Nat} {l : List ByteArray} (h : IsMap w B gm l) (hb : B' ≤ B) : IsMap w B' gm l := by
  obtain ⟨A, c, h1, h2, h3⟩ := h.out
  exact ⟨A, c, by omega, h2, own_lower h3 hb⟩

set_option maxHeartbeats 400000 in
theorem routeNew_ok (A : Option Addr) (c : Nat) (l : List ByteArray) (w : World) (hc : l.length ≤ c) (hA : A = none ∨ ∃ b off, A = some ⟨b, off, none⟩) (hr : Row w A l.length 1 (strRow l)) (h0 : routeRight l = 0) :
    Calls Tryd.prog 7 #[.slice A l.length c] w fun e w' => (∃ gm, e = .returned (.tuple #[.pointer (some ⟨gm, 0, none⟩), .int .i64 0]) ∧ IsMap w' w.heap.size gm l) ∧ Below w.heap.size w w' := by
  have hl := (routeRight_ok h0).1
  have h1 := right_any A c l w hc hr (by omega)
  rw [h0] at h1
  have H1 := Lib.hid h1
  have H2 := Lib.hid (fun n => cloneStr_any A c l (w.drewN n) hA (by exact hr) (by omega))
  clear h1 hr hA h0
  go_enter Tryd.func7, Tryd.ntmps7
  go_wp2_with fail
  refine H1.out.mono ?_
  rintro e w1 ⟨rfl, n, rfl⟩
  go_wp2_with fail
  refine (H2.out n).mono ?_
  rintro e w2 ⟨v', rfl, ho, hb⟩
  obtain ⟨A', c', hv, _, _, _⟩ := own_slice_form ho
  subst hv
  have hb' : Below w.heap.size w w2 := ⟨hb.os, hb.tape, hb.output, hb.size, hb.block⟩
  have ho' : w2.ownsRow w.heap.size 9 1 (.slice A' l.length c') l.length (strRow l) := ho
  have HB := Lib.hid hb'
  have HO := Lib.hid ho'
  clear hb ho hb' ho'
  go_wp2_with fail
  go_ret2
  exact ⟨⟨_, rfl, ⟨A', c', HB.out.size, Blk.new _ _ _, HO.out.alloc _⟩⟩, HB.out.alloc HB.out.size _⟩
end Go.Proofs.YtheecdjpbfkpdaaDoor
