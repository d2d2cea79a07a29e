/-
  Walks: route's right and New; the map that they make.
-/
import Derived.Test.YtheecdjpbfkpdaaDoorDw2
import Derived.Test.YtheecdjpbfkpdaaDoorShelfDrv
namespace Go.Proofs.YtheecdjpbfkpdaaDoor
open Go.RowKit
set_option maxRecDepth 100000
set_option linter.unusedSimpArgs false
set_option linter.unusedVariables false

def splitBad (s : ByteArray) : Bool := s.toList == [] || decide (16 < s.size)
def risesB (l : List ByteArray) : Bool := (List.range l.length).all fun i => i == 0 || !(leS (l.getD i ⟨#[]⟩) (l.getD (i - 1) ⟨#[]⟩))
/-- What route's right says of splits. -/
def routeRight (l : List ByteArray) : Int := if 7 < l.length then 7 else if l.any splitBad then 1 else if risesB l then 0 else 5
theorem getD_at {l : List ByteArray} {k : Nat} (h : k < l.length) : l[k]? = some (l.getD k ⟨#[]⟩) := by
  rw [List.getD_eq_getElem?_getD, List.getElem?_eq_getElem h]; rfl
theorem any_bad {l : List ByteArray} {k : Nat} (h : k < l.length) (hb : splitBad (l.getD k ⟨#[]⟩) = true) : l.any splitBad = true := by
  rw [List.any_eq_true]
  exact ⟨_, List.mem_of_getElem? (getD_at h), hb⟩
theorem none_bad {l : List ByteArray} (h : ∀ j, j < l.length → splitBad (l.getD j ⟨#[]⟩) = false) : l.any splitBad = false := by
  rw [List.any_eq_false]
  intro x hx
  obtain ⟨j, hj⟩ := List.getElem?_of_mem hx
  have hlt := (List.getElem?_eq_some_iff.1 hj).1
  have := h j hlt
  rw [getD_at hlt] at hj
  injection hj with hj
  rw [← hj, this]
  simp

set_option maxHeartbeats 1000000 in
theorem right_any (A : Option Addr) (c : Nat) (l : List ByteArray) (w : World) (hc : l.length ≤ c) (hr : Row w A l.length 1 (strRow l)) (hl : l.length ≤ 9223372036854775807) :
    Calls Tryd.prog 23 #[.slice A l.length c] w fun e w' => e = .returned (.int .i64 (routeRight l)) ∧ ∃ n, w' = w.drewN n := by
  have HR := Lib.hid hr
  clear hr
  by_cases h7 : 7 < l.length
  · have e1 : routeRight l = 7 := by unfold routeRight; rw [if_pos h7]
    rw [e1]
    clear e1
    go_enter Tryd.func23, Tryd.ntmps23
    go_wp2
    go_ret
    exact ⟨rfl, 0, rfl⟩
  · have he : routeRight l = if l.any splitBad then 1 else if risesB l then 0 else 5 := by unfold routeRight; rw [if_neg h7]
    have HE := Lib.hid he
    clear he
    go_enter Tryd.func23, Tryd.ntmps23
    go_wp2
    go_loop [4, 11] (fun s4 i => ∃ k : Nat, k ≤ l.length ∧ i = .int .i64 k ∧ Hid (∀ j, j < k → splitBad (l.getD j ⟨#[]⟩) = false)) (fun _ i => l.length - (intOf i).toNat)
    case atStart => exact ⟨0, Nat.zero_le _, rfl, fun j hj => absurd hj (by omega)⟩
    case round =>
      obtain ⟨k, hk, rfl, H⟩ := hrel
      by_cases hlt : k < l.length
      · obtain ⟨ad, hA, q0⟩ := HR.out.str k _ (getD_at hlt)
        subst hA
        have hb0 : Hid (splitBad (l.getD k ⟨#[]⟩) = ((l.getD k ⟨#[]⟩).toList == [] || decide (16 < (l.getD k ⟨#[]⟩).size))) := rfl
        have HB := Lib.hid (fun h => any_bad (l := l) (k := k) hlt h)
        have HK : Hid (splitBad (l.getD k ⟨#[]⟩) = false → ∀ j, j < k + 1 → splitBad (l.getD j ⟨#[]⟩) = false) := fun h j hj => by
          by_cases hjk : j < k
          · exact H.out j hjk
          · obtain rfl : j = k := by omega
            exact h
        generalize l.getD k ⟨#[]⟩ = sk at *
        by_cases hz : sk.toList = []
        · have z1 : (sk.toList == []) = true := by simp [hz]
          have z2 : sk.toList.isEmpty = true := by simp [hz]
          have hbad : splitBad sk = true := by rw [hb0.out, z1]; rfl
          have he : routeRight l = 1 := by rw [HE.out, if_pos (HB.out hbad)]
          have HZ := Lib.hid he
          clear hz hbad he
          go_wp2
          go_ret
          rw [HZ.out]
          exact ⟨rfl, 0, rfl⟩
        · have z1 : (sk.toList == []) = false := by simpa using hz
          have z2 : sk.toList.isEmpty = false := by simpa using hz
          by_cases h16 : 16 < sk.size
          · have hbad : splitBad sk = true := by rw [hb0.out, z1]; simpa using h16
            have he : routeRight l = 1 := by rw [HE.out, if_pos (HB.out hbad)]
            have HZ := Lib.hid he
            clear hz hbad he
            go_wp2
            go_ret
            rw [HZ.out]
            exact ⟨rfl, 0, rfl⟩
          · have hbad : splitBad sk = false := by rw [hb0.out, z1]; simpa using h16
            have HZ := Lib.hid hbad
            clear hz hbad
            go_wp2
            go_round
            case rel => exact ⟨k + 1, by omega, by go_num, HK.out HZ.out⟩
            case measure => simp [intOf]; omega
      · obtain rfl : k = l.length := by omega
        have HN := Lib.hid (none_bad H.out)
        clear H
        go_wp2
        go_loopw [5, 25] (fun s5 i wr => ∃ k : Nat, k ≤ l.length ∧ i = .int .i64 k ∧ Hid (∀ j, j < k → (j == 0 || !(leS (l.getD j ⟨#[]⟩) (l.getD (j - 1) ⟨#[]⟩))) = true) ∧ ∃ n, wr = w.drewN n) (fun _ i _ => l.length - (intOf i).toNat)
        case atStart => exact ⟨0, Nat.zero_le _, rfl, fun j hj => absurd hj (by omega), 0, rfl⟩
        case round =>
          obtain ⟨k, hk, rfl, H, n, rfl⟩ := hrel
          by_cases hlt : k < l.length
          · obtain ⟨ad, hA, q0⟩ := HR.out.str k _ (getD_at hlt)
            subst hA
            by_cases hk0 : k = 0
            · have hg : decide ((0 : Int) < (k : Int)) = false := by simp; omega
              have hg' : decide (0 < k) = false := by simp; omega
              have HK : Hid (∀ j, j < k + 1 → (j == 0 || !(leS (l.getD j ⟨#[]⟩) (l.getD (j - 1) ⟨#[]⟩))) = true) := fun j hj => by
                obtain rfl : j = 0 := by omega
                rfl
              clear hk0
              go_wp2
              go_quiet (fail)
              go_wp2
              go_roundw
              case rel => exact ⟨k + 1, by omega, by go_num, HK, _, rfl⟩
              case measure => simp [intOf]; omega
            · obtain ⟨ad', hA', q1⟩ := HR.out.str (k - 1) _ (getD_at (by omega))
              injection hA' with hA'
              subst hA'
              have hg : decide ((0 : Int) < (k : Int)) = true := by simp; omega
              have hg' : decide (0 < k) = true := by simp; omega
              have hkp : (k : Int) - 1 = ((k - 1 : Nat) : Int) := by omega
              have hN : Hid ((k == 0) = false) := by show (k == 0) = false; simpa using hk0
              have hz1 : (0 : Int) ≤ (k : Int) - 1 := by omega
              have hz2 : (k : Int) - 1 < (l.length : Int) := by omega
              have hz3 : ((k : Int) - 1).toNat = k - 1 := by omega
              have hz4 : (0 : Int) ≤ (k : Int) := by omega
              have hz5 : (k : Int) < (l.length : Int) := by omega
              have HL : Hid (leS (l.getD k ⟨#[]⟩) (l.getD (k - 1) ⟨#[]⟩) = (Op.bytesLess (l.getD k ⟨#[]⟩).toList (l.getD (k - 1) ⟨#[]⟩).toList || (l.getD k ⟨#[]⟩).toList == (l.getD (k - 1) ⟨#[]⟩).toList)) := rfl
              have HK : Hid (leS (l.getD k ⟨#[]⟩) (l.getD (k - 1) ⟨#[]⟩) = false → ∀ j, j < k + 1 → (j == 0 || !(leS (l.getD j ⟨#[]⟩) (l.getD (j - 1) ⟨#[]⟩))) = true) := fun h j hj => by
                by_cases hjk : j < k
                · exact H.out j hjk
                · obtain rfl : j = k := by omega
                  rw [h]
                  simp
              have HF : Hid (leS (l.getD k ⟨#[]⟩) (l.getD (k - 1) ⟨#[]⟩) = true → risesB l = false) := fun h => by
                unfold risesB
                rw [List.all_eq_false]
                exact ⟨k, by simpa using hlt, by rw [hN.out, h]; simp⟩
              clear hkp hk0 H
              generalize l.getD k ⟨#[]⟩ = s1 at *
              generalize l.getD (k - 1) ⟨#[]⟩ = s0 at *
              cases hb : Op.bytesLess s1.toList s0.toList with
              | true =>
                have he : routeRight l = 5 := by rw [HE.out, if_neg (by rw [HN.out]; simp), if_neg (by rw [HF.out (by rw [HL.out, hb]; rfl)]; simp)]
                have HZ := Lib.hid he
                clear he
                go_wp2
                go_quiet (fail)
                go_wp2
                go_ret
                rw [HZ.out]
                exact ⟨rfl, _, World.drewN_drewN _ _ _⟩
              | false =>
                cases hq : (s1.toList == s0.toList) with
                | true =>
                  have he : routeRight l = 5 := by rw [HE.out, if_neg (by rw [HN.out]; simp), if_neg (by rw [HF.out (by rw [HL.out, hb, hq]; rfl)]; simp)]
                  have HZ := Lib.hid he
                  clear he
                  go_wp2
                  go_quiet (fail)
                  go_wp2
                  go_ret
                  rw [HZ.out]
                  exact ⟨rfl, _, World.drewN_drewN _ _ _⟩
                | false =>
                  have HZ := Lib.hid (HK.out (by rw [HL.out, hb, hq]; rfl))
                  go_wp2
                  go_quiet (fail)
                  go_wp2
                  go_roundw
                  case rel => exact ⟨k + 1, by omega, by go_num, HZ.out, _, rfl⟩
                  case measure => simp [intOf]; omega
          · obtain rfl : k = l.length := by omega
            have he : routeRight l = 0 := by
              rw [HE.out, if_neg (by rw [HN.out]; simp), if_pos]
              unfold risesB
              rw [List.all_eq_true]
              intro j hj
              exact H.out j (by simpa using hj)
            have HZ := Lib.hid he
            clear he H
            go_wp2
            go_ret
            rw [HZ.out]
            exact ⟨rfl, n, rfl⟩

theorem routeRight_ok {l : List ByteArray} (h : routeRight l = 0) : l.length ≤ 7 ∧ Rise l := by
  unfold routeRight at h
  split at h
  · cases h
  · split at h
    · cases h
    · split at h
      · rename_i h1 h2 h3
        refine ⟨by omega, ?_⟩
        have hstep : ∀ j, j + 1 < l.length → ltS (l.getD j ⟨#[]⟩) (l.getD (j + 1) ⟨#[]⟩) = true := fun j hj => by
          unfold risesB at h3
          rw [List.all_eq_true] at h3
          have := h3 (j + 1) (by simpa using hj)
          simp at this
          have h4 : leS (l.getD (j + 1) ⟨#[]⟩) (l.getD j ⟨#[]⟩) = false := by simpa using this
          exact not_leS.1 h4
        have hall : ∀ d i, i + d + 1 < l.length → ltS (l.getD i ⟨#[]⟩) (l.getD (i + d + 1) ⟨#[]⟩) = true := by
          intro d
          induction d with
          | zero => intro i hi; exact hstep i hi
          | succ d ih => intro i hi; exact ltS_trans (ih i (by omega)) (hstep (i + d + 1) (by omega))
        intro i j a b hij ha hb
        have hj := (List.getElem?_eq_some_iff.1 hb).1
        have hi := (List.getElem?_eq_some_iff.1 ha).1
        have := hall (j - i - 1) i (by omega)
        rw [show i + (j - i - 1) + 1 = j from by omega] at this
        rw [getD_at hi] at ha
        rw [getD_at hj] at hb
        injection ha with ha
        injection hb with hb
        rw [← ha, ← hb]
        exact this
      · cases h
end Go.Proofs.YtheecdjpbfkpdaaDoor
