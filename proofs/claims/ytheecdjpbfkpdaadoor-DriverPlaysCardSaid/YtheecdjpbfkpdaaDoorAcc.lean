/-
  Walks: Results, Attempt, Tx, Stamp.
-/
import Derived.Test.YtheecdjpbfkpdaaDoorNew
namespace Go.Proofs.YtheecdjpbfkpdaaDoor
open Go.RowKit
set_option maxRecDepth 100000
set_option linter.unusedSimpArgs false
set_option linter.unusedVariables false

section
variable (w : World) (B g : Nat) (L : DL) (s : DS)
theorem attempt_any (hD : Drv w B g L s) :
    Calls Tryd.prog 18 #[.pointer (some ⟨g, 0, none⟩)] w fun e w' => e = .returned (.int .i64 s.attempt) ∧ ∃ n, w' = w.drewN n := by
  have c5 := hD.c5
  have hlt := hD.lt
  clear hD
  go_enter Tryd.func18, Tryd.ntmps18
  go_wp2_with fail
  go_ret
  refine ⟨rfl, ?_⟩
  first | exact ⟨0, rfl⟩ | exact ⟨1, rfl⟩
theorem tx_any (hD : Drv w B g L s) :
    Calls Tryd.prog 21 #[.pointer (some ⟨g, 0, none⟩)] w fun e w' => e = .returned (.int .i64 s.tx) ∧ ∃ n, w' = w.drewN n := by
  have c5 := hD.c0
  have hlt := hD.lt
  clear hD
  go_enter Tryd.func21, Tryd.ntmps21
  go_wp2_with fail
  go_ret
  refine ⟨rfl, ?_⟩
  first | exact ⟨0, rfl⟩ | exact ⟨1, rfl⟩
theorem stamp_any (hD : Drv w B g L s) :
    Calls Tryd.prog 22 #[.pointer (some ⟨g, 0, none⟩)] w fun e w' => e = .returned (.int .i64 s.stamp) ∧ ∃ n, w' = w.drewN n := by
  have c5 := hD.c1
  have hlt := hD.lt
  clear hD
  go_enter Tryd.func22, Tryd.ntmps22
  go_wp2_with fail
  go_ret
  refine ⟨rfl, ?_⟩
  first | exact ⟨0, rfl⟩ | exact ⟨1, rfl⟩

theorem own_addr {w : World} {base : Nat} {e : TypeId} {size n m c : Nat} {A : Option Addr} {xs : List Value} (h : w.ownsRow base e size (.slice A n c) m xs) : A = none ∨ ∃ b off, A = some ⟨b, off, none⟩ := by
  rcases h.2 with ⟨hv, _⟩ | ⟨g, cap, cur, hv, _⟩
  · injection hv with h1; exact .inl h1
  · injection hv with h1; exact .inr ⟨_, _, h1⟩
def DS.out (s : DS) : List ResS := if s.phase = 8 then s.results else []
set_option maxHeartbeats 1000000 in
theorem results_any (hD : Drv w B g L s) (hI : DInv s) :
    Calls Tryd.prog 20 #[.pointer (some ⟨g, 0, none⟩)] w fun e w' => (∃ A c, e = .returned (.slice A s.out.length c) ∧ w'.ownsRow w.heap.size 52 2 (.slice A s.out.length c) s.out.length (resRow s.out)) ∧ Below w.heap.size w w' := by
  have c6 := hD.c6
  have c12 := hD.c12
  have hlt := hD.lt
  have hres := hD.res
  have h16 := hI.res16
  clear hD hI
  by_cases h8 : s.phase = 8
  · have HE : Hid (s.out = s.results) := by unfold DS.out; rw [if_pos h8]; exact rfl
    obtain ⟨A, c, hv, hc1, hc2, hc3⟩ := own_slice_form hres
    rw [hv] at c12 hres
    have HR := Lib.hid (Row.of_own hres)
    have hA := own_addr hres
    have HA := Lib.hid hA
    rw [h8] at c6
    clear hres hv hc3 hA
    go_enter Tryd.func20, Tryd.ntmps20
    go_wp2_with fail
    refine (cloneRes_any A c s.results _ HA.out HR.out (by omega)).mono ?_
    rintro e w2 ⟨v', rfl, ho, hb⟩
    obtain ⟨A', c', hv, _, _, _⟩ := own_slice_form ho
    subst hv
    have HB := Lib.hid hb
    have HO := Lib.hid ho
    clear hb ho
    go_wp2_with fail
    go_ret
    rw [HE.out]
    exact ⟨⟨A', c', rfl, HO.out⟩, HB.out⟩
  · have HE : Hid (s.out = []) := by unfold DS.out; rw [if_neg h8]; exact rfl
    clear hres
    go_enter Tryd.func20, Tryd.ntmps20
    go_wp2_with fail
    go_ret
    rw [HE.out]
    exact ⟨⟨none, 0, rfl, World.ownsRow_nil _ _ _ _⟩, Below.refl _ _⟩
end
end Go.Proofs.YtheecdjpbfkpdaaDoor
