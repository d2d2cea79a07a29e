/-
  Walks: driver.New and State.
-/
import Derived.Test.YtheecdjpbfkpdaaDoorPr2
import Derived.Test.YtheecdjpbfkpdaaDoorNw
import Derived.Test.YtheecdjpbfkpdaaDoorDw9
namespace Go.Proofs.YtheecdjpbfkpdaaDoor
open Go.RowKit
set_option maxRecDepth 100000
set_option linter.unusedSimpArgs false
set_option linter.unusedVariables false

def DS.start (tx stamp tries : Int) (sp : List ByteArray) (l : List OpS) : DS := ⟨tx, stamp, tries, sp, l, 0, 0, 0, ResS.zero, ResS.zero, [], [], [], 1, false⟩
theorem newCode_ok {tx stamp tries : Int} {l : List OpS} (h : newCode tx stamp tries l = 0) : 0 ≤ tx ∧ tx ≤ 1048576 ∧ 1 ≤ stamp ∧ stamp ≤ 1099511627776 ∧ 1 ≤ tries ∧ tries ≤ 1048576 ∧ l.length ≤ 16 ∧ l.all opOk = true ∧ rightOps l = 0 := by
  unfold newCode at h
  split at h
  · exact absurd h (by decide)
  · have h0 := h
    unfold rightOps at h
    split at h
    · exact absurd h (by decide)
    · split at h
      · rename_i ha; refine ⟨by omega, by omega, by omega, by omega, by omega, by omega, by omega, ha, h0⟩
      · exact absurd h (by decide)
theorem DInv.start {tx stamp tries : Int} {sp : List ByteArray} {l : List OpS} (h : newCode tx stamp tries l = 0) (hs : routeRight sp = 0) : DInv (DS.start tx stamp tries sp l) := by
  have h' := newCode_ok h
  have hr := routeRight_ok hs
  constructor <;> simp [DS.start, hr.1, hr.2] <;> omega

set_option maxHeartbeats 1000000 in
theorem new_nil (tx stamp tries : Int) (A : Option Addr) (c n : Nat) (w : World) :
    Calls Tryd.prog 8 #[.int .i64 tx, .int .i64 stamp, .pointer none, .slice A n c, .int .i64 tries] w fun e w' => e = .returned (.tuple #[.pointer none, .int .i64 1]) ∧ Below w.heap.size w w' := by
  have hw : tx < 0 ∨ (¬ tx < 0 ∧ 1048576 < tx) ∨ (¬ tx < 0 ∧ ¬ 1048576 < tx ∧ stamp < 1) ∨ (¬ tx < 0 ∧ ¬ 1048576 < tx ∧ ¬ stamp < 1 ∧ 1099511627776 < stamp) ∨ (¬ tx < 0 ∧ ¬ 1048576 < tx ∧ ¬ stamp < 1 ∧ ¬ 1099511627776 < stamp) := by omega
  go_enter Tryd.func8, Tryd.ntmps8
  rcases hw with h1 | ⟨h1, h2⟩ | ⟨h1, h2, h3⟩ | ⟨h1, h2, h3, h4⟩ | ⟨h1, h2, h3, h4⟩ <;>
    (go_wp2_with fail
     go_ret2
     exact ⟨rfl, Below.refl _ _⟩)

set_option maxHeartbeats 4000000 in
theorem new_bad (tx stamp tries : Int) (p : Addr) (A : Option Addr) (c : Nat) (l : List OpS) (w : World) (hc : l.length ≤ c) (hr : Row w A l.length 4 (opRow l)) (hl : l.length ≤ 9223372036854775807) (hn : newCode tx stamp tries l ≠ 0) :
    Calls Tryd.prog 8 #[.int .i64 tx, .int .i64 stamp, .pointer (some p), .slice A l.length c, .int .i64 tries] w fun e w' => e = .returned (.tuple #[.pointer none, .int .i64 (newCode tx stamp tries l)]) ∧ Below w.heap.size w w' := by
  have HR := Lib.hid hr
  have HN := Lib.hid hn
  clear hr hn
  have hw : tx < 0 ∨ (¬ tx < 0 ∧ 1048576 < tx) ∨ (¬ tx < 0 ∧ ¬ 1048576 < tx ∧ stamp < 1) ∨ (¬ tx < 0 ∧ ¬ 1048576 < tx ∧ ¬ stamp < 1 ∧ 1099511627776 < stamp) ∨ (¬ tx < 0 ∧ ¬ 1048576 < tx ∧ ¬ stamp < 1 ∧ ¬ 1099511627776 < stamp ∧ tries < 1) ∨ (¬ tx < 0 ∧ ¬ 1048576 < tx ∧ ¬ stamp < 1 ∧ ¬ 1099511627776 < stamp ∧ ¬ tries < 1 ∧ 1048576 < tries) ∨ (¬ tx < 0 ∧ ¬ 1048576 < tx ∧ ¬ stamp < 1 ∧ ¬ 1099511627776 < stamp ∧ ¬ tries < 1 ∧ ¬ 1048576 < tries) := by omega
  go_enter Tryd.func8, Tryd.ntmps8
  rcases hw with h1 | ⟨h1, h2⟩ | ⟨h1, h2, h3⟩ | ⟨h1, h2, h3, h4⟩ | ⟨h1, h2, h3, h4, h5⟩ | ⟨h1, h2, h3, h4, h5, h6⟩ | ⟨h1, h2, h3, h4, h5, h6⟩
  case inr.inr.inr.inr.inr.inr =>
    have hr0 : rightOps l ≠ 0 := fun h => HN.out (by unfold newCode; rw [if_neg (by omega)]; exact h)
    have he : newCode tx stamp tries l = rightOps l := by unfold newCode; rw [if_neg (by omega)]
    have HE := Lib.hid he
    clear he
    go_wp2_with fail
    refine (planRight_any A c l w hc HR.out hl).mono ?_
    rintro e w1 ⟨rfl, hb⟩
    have HB := Lib.hid hb
    clear hb
    go_wp2_with fail
    go_ret2
    rw [HE.out]
    exact ⟨rfl, HB.out⟩
  all_goals
    have he : newCode tx stamp tries l = 1 := by unfold newCode; rw [if_pos (by omega)]
    have HE := Lib.hid he
    clear he
    go_wp2_with fail
    go_ret2
    rw [HE.out]
    exact ⟨rfl, Below.refl _ _⟩

set_option maxHeartbeats 4000000 in
theorem new_ok (tx stamp tries : Int) (gm B : Nat) (sp : List ByteArray) (A : Option Addr) (c : Nat) (l : List OpS) (w : World) (hc : l.length ≤ c) (hA : A = none ∨ ∃ b off, A = some ⟨b, off, none⟩) (hr : Row w A l.length 4 (opRow l)) (hm : IsMap w B gm sp) (hB : B ≤ w.heap.size) (hn : newCode tx stamp tries l = 0) :
    Calls Tryd.prog 8 #[.int .i64 tx, .int .i64 stamp, .pointer (some ⟨gm, 0, none⟩), .slice A l.length c, .int .i64 tries] w fun e w' => (∃ g L, e = .returned (.tuple #[.pointer (some ⟨g, 0, none⟩), .int .i64 0]) ∧ Drv w' B g L (DS.start tx stamp tries sp l) ∧ ∀ k, foot g L k → w.heap.size ≤ k) ∧ Below w.heap.size w w' := by
  have h' := newCode_ok hn
  obtain ⟨h1, h2, h3, h4, h5, h6, h7, h8, h9⟩ := h'
  have HP : Hid (Calls Tryd.prog 25 #[.slice A l.length c] w fun e w' => e = .returned (.int .i64 0) ∧ Below w.heap.size w w') := by have := planRight_any A c l w hc hr (by omega); rw [h9] at this; exact this
  have HR := Lib.hid hr
  have HM := Lib.hid hm
  clear hr hm h9
  go_enter Tryd.func8, Tryd.ntmps8
  go_wp2_with fail
  refine HP.out.mono ?_
  rintro e w1 ⟨rfl, hb⟩
  have HB := Lib.hid hb
  clear hb
  go_wp2_with fail
  refine (cloneOp_any A c l w1 hA (HR.out.below HB.out) (by omega)).mono ?_
  rintro e w2 ⟨v', rfl, ho, hb⟩
  obtain ⟨A', c', hv, _, _, _⟩ := own_slice_form ho
  subst hv
  have HB2 := Lib.hid (HB.out.trans (hb.mono HB.out.size))
  have HO := Lib.hid (own_lower ho HB.out.size)
  clear hb ho
  go_wp2_with fail
  go_ret2
  obtain ⟨sA, sc, m1, m2, m3⟩ := (HM.out.below HB2.out).out
  refine ⟨⟨_, ⟨gm, sA, sc, A', c', .slice none 0 0, .slice none 0 0, none, 0⟩, rfl, ⟨?_, Blk.new _ _ _, m2.alloc _, m3.alloc _, (own_lower HO.out hB).alloc _, World.ownsRow_nil _ _ _ _, World.ownsRow_nil _ _ _ _, fun e => ?_⟩, ?_⟩, HB2.out.alloc HB2.out.size _⟩
  · have := HB2.out.size; omega
  · exact absurd (show (0 : Int) = 7 from e) (by decide)
  · have := HB2.out.size
    rintro k (h | h | h)
    · omega
    · exact absurd h (by simp [Value.ownBlock])
    · exact absurd h (by simp [Value.ownBlock])

/-- What it says of itself. -/
def DS.state (s : DS) : Int := if s.phase = 8 then s.outcome else 1
theorem state_nil (w : World) : Calls Tryd.prog 11 #[.pointer none] w fun e w' => e = .returned (.int .i64 0) ∧ ∃ n, w' = w.drewN n := by
  go_enter Tryd.func11, Tryd.ntmps11
  go_wp2_with fail
  go_ret
  refine ⟨rfl, ?_⟩
  first | exact ⟨0, rfl⟩ | exact ⟨1, rfl⟩
set_option maxHeartbeats 1000000 in
theorem state_any (w : World) (B g : Nat) (L : DL) (s : DS) (hD : Drv w B g L s) :
    Calls Tryd.prog 11 #[.pointer (some ⟨g, 0, none⟩)] w fun e w' => e = .returned (.int .i64 s.state) ∧ ∃ n, w' = w.drewN n := by
  have c6 := hD.c6
  have c15 := hD.c15
  have hlt := hD.lt
  clear hD
  by_cases h8 : s.phase = 8
  · have HE : Hid (s.state = s.outcome) := by unfold DS.state; rw [if_pos h8]; exact rfl
    go_enter Tryd.func11, Tryd.ntmps11
    rw [h8] at c6
    go_wp2_with fail
    go_ret
    rw [HE.out]
    refine ⟨rfl, ?_⟩
    first | exact ⟨0, rfl⟩ | exact ⟨1, rfl⟩
  · have HE : Hid (s.state = 1) := by unfold DS.state; rw [if_neg h8]; exact rfl
    go_enter Tryd.func11, Tryd.ntmps11
    go_wp2_with fail
    go_ret
    rw [HE.out]
    refine ⟨rfl, ?_⟩
    first | exact ⟨0, rfl⟩ | exact ⟨1, rfl⟩
end Go.Proofs.YtheecdjpbfkpdaaDoor
