/-
  Walks: the driver's behind and ends.
-/
import Derived.Test.YtheecdjpbfkpdaaDoorDw4
namespace Go.Proofs.YtheecdjpbfkpdaaDoor
open Go.RowKit
set_option maxRecDepth 100000
set_option linter.unusedSimpArgs false
set_option linter.unusedVariables false

section
variable {w : World} {B g : Nat} {L : DL} {s : DS}
set_option maxHeartbeats 1000000 in
theorem behind_any (hD : Drv w B g L s) (h0 : 0 ≤ s.attempt) (h1 : s.attempt < s.tries) (h2 : s.tries ≤ 1048576) :
    Calls Tryd.prog 32 #[.pointer (some ⟨g, 0, none⟩)] w fun e w' => e = .returned (.tuple #[]) ∧ DPost w B g L s.behind w' := by
  have c2 := hD.c2
  have c5 := hD.c5
  have c6 := hD.c6
  have c8 := hD.c8
  have c9 := hD.c9
  have c10 := hD.c12
  have c13 := hD.c13
  have c14 := hD.c14
  have c15 := hD.c15
  have c16 := hD.c16
  have f5 := hD.fz 5
  have f6 := hD.fz 6
  have f8 := hD.fz 8
  have f9 := hD.fz 9
  have f12 := hD.fz 12
  have f13 := hD.fz 13
  have f14 := hD.fz 14
  have f15 := hD.fz 15
  have hlt := hD.lt
  have HD := Lib.hid hD
  clear hD
  by_cases ho : s.outcome = 2
  · have e1 : s.behind = { s with phase := 8 } := by unfold DS.behind; rw [if_pos ho]
    have e2 : (s.outcome == 2) = true := by rw [ho]; rfl
    rw [e1]
    clear e1 ho
    go_enter Tryd.func32, Tryd.ntmps32
    go_wp2
    go_end0
    exact ⟨rfl, DPost.same (HD.out.set6 8 (fun e => absurd e (by decide))) (Upd.refl _ _).at_g (.inr rfl) (.inr rfl)⟩
  · have e2 : (s.outcome == 2) = false := by simpa using ho
    by_cases hq : s.quits = true
    · have e1 : s.behind = { s with phase := 8, results := [] } := by unfold DS.behind; rw [if_neg ho, if_pos (.inl hq)]
      rw [e1]
      rw [hq] at c16
      clear e1 ho hq
      go_enter Tryd.func32, Tryd.ntmps32
      go_wp2
      go_quiet (fail)
      go_wp2
      go_end0
      exact ⟨rfl, DPost.same (((HD.out.drewN _).set6 8 (fun e => absurd e (by decide))).set12nil) (((Upd.refl _ _).drewN _).at_g).at_g (.inl rfl) (.inr rfl)⟩
    · have hq' : s.quits = false := by simpa using hq
      by_cases ha : s.tries ≤ s.attempt + 1
      · have e1 : s.behind = { s with phase := 8, results := [] } := by unfold DS.behind; rw [if_neg ho, if_pos (.inr ha)]
        rw [e1]
        rw [hq'] at c16
        clear e1 ho hq hq'
        go_enter Tryd.func32, Tryd.ntmps32
        go_wp2
        go_quiet (fail)
        go_wp2
        go_end0
        exact ⟨rfl, DPost.same (((HD.out.drewN _).set6 8 (fun e => absurd e (by decide))).set12nil) (((Upd.refl _ _).drewN _).at_g).at_g (.inl rfl) (.inr rfl)⟩
      · have e1 : s.behind = { s with attempt := s.attempt + 1, phase := 0, outcome := 1, last := ResS.zero, results := [], touched := [], left := [] } := by
          unfold DS.behind
          rw [if_neg ho, if_neg (by rintro (x | x); exact hq x; exact ha x)]
        rw [e1]
        rw [hq'] at c16
        clear e1 ho hq hq'
        go_enter Tryd.func32, Tryd.ntmps32
        go_wp2
        go_quiet (fail)
        go_wp2
        go_end0
        exact ⟨rfl, DPost.same (((((((((HD.out.drewN _).set5 _).set6 0 (fun e => absurd e (by decide))).set15 1).set8 _).set9 _).set12nil).set13nil (by show (0 : Int) ≠ 7; decide)).set14 none [] 0 (fun e => absurd e (by show ¬ (0 : Int) = 7; decide))) (((((((((Upd.refl _ _).drewN _).at_g).at_g).at_g).at_g).at_g).at_g).at_g).at_g (.inl rfl) (.inl rfl)⟩

set_option maxHeartbeats 1000000 in
theorem ends_any (state : Int) (hD : Drv w B g L s) (hp : s.phase ≠ 7) (h0 : 0 ≤ s.attempt) (h1 : s.attempt < s.tries) (h2 : s.tries ≤ 1048576) :
    Calls Tryd.prog 47 #[.pointer (some ⟨g, 0, none⟩), .int .i64 state] w fun e w' => e = .returned (.tuple #[]) ∧ DPost w B g L (s.ends state) w' := by
  obtain ⟨A, c, hv, hn, hc, hg⟩ := own_slice_form hD.tou
  have c6 := hD.c6
  have c13 := hD.c13
  have c14 := hD.c14
  have c15 := hD.c15
  have f6 := hD.fz 6
  have f14 := hD.fz 14
  have f15 := hD.fz 15
  rw [hv] at c13
  have hlt := hD.lt
  have hk : LeftOk { L with lA := A, lc := c } { s with outcome := state, left := s.touched, phase := 7 } := by
    refine ⟨hn, 0, rfl, fun hne => ?_⟩
    have h0 : 0 < s.touched.length := List.length_pos_iff.2 hne
    obtain ⟨gt, rfl⟩ := hg h0
    exact ⟨gt, _, c, hv, rfl⟩
  have hD3 := ((hD.set15 state).set14 A s.touched c (fun e => absurd e hp)).set6 7 (fun _ => hk)
  have hU3 : Upd (foot g L) w (((w.setCell ⟨g, 15, none⟩ (.int .i64 state)).setCell ⟨g, 14, none⟩ (.slice A s.touched.length c)).setCell ⟨g, 6, none⟩ (.int .i64 7)) := (((Upd.refl _ _).at_g).at_g).at_g
  have HD3 := Lib.hid hD3
  have HU3 := Lib.hid hU3
  clear hD hg hk hv hD3 hU3
  by_cases ht : s.touched = []
  · have e1 : s.ends state = { s with outcome := state, left := s.touched, phase := 7 : DS }.behind := by unfold DS.ends; rw [if_pos ht, ht]
    rw [e1]
    have hl : ((s.touched.length : Int) == 0) = true := by simp [ht]
    clear e1 ht
    go_enter Tryd.func47, Tryd.ntmps47
    go_wp2_with fail
    refine (behind_any HD3.out h0 h1 h2).mono ?_
    rintro e w1 ⟨rfl, hP⟩
    have HP := Lib.hid hP
    clear hP
    go_wp2_with fail
    go_end0
    exact ⟨rfl, DPost.from_same HU3.out rfl rfl HP.out⟩
  · have e1 : s.ends state = { s with outcome := state, left := s.touched, phase := 7 } := by unfold DS.ends; rw [if_neg ht]
    rw [e1]
    have hl : ((s.touched.length : Int) == 0) = false := by simpa using ht
    clear e1 ht
    go_enter Tryd.func47, Tryd.ntmps47
    go_wp2_with fail
    go_end0
    exact ⟨rfl, DPost.same HD3.out HU3.out (.inr rfl) (.inr rfl)⟩
end
end Go.Proofs.YtheecdjpbfkpdaaDoor
