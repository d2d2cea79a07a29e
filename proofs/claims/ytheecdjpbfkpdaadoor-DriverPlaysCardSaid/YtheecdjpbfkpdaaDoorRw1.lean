/-
  Walks of the document's functions: which shard, may splits be.
-/
import Derived.Test.YtheecdjpbfkpdaaDoorRt
import Derived.Test.YtheecdjpbfkpdaaDoorRnm
import Derived.Test.YtheecdjpbfkpdaaDoorPr2
namespace Go.Proofs.YtheecdjpbfkpdaaDoor
open Go.RowKit
set_option maxRecDepth 100000
set_option linter.unusedSimpArgs false
set_option linter.unusedVariables false

set_option maxHeartbeats 1000000 in
theorem refOf_any (A : Option Addr) (c : Nat) (l : List ByteArray) (key : ByteArray) (w : World) (hc : l.length ≤ c) (hr : Row w A l.length 1 (strRow l)) (hl : l.length ≤ 4096) :
    Calls Tryd.prog 35 #[.slice A l.length c, .string key] w fun e w' => e = .returned (.int .i64 (shardOf l key)) ∧ ∃ n, w' = w.drewN n := by
  have HR := Lib.hid hr
  clear hr
  go_enter Tryd.func35, Tryd.ntmps35
  go_wp2
  go_loopw [5, 10] (fun m i wr => ∃ k q : Nat, k ≤ l.length ∧ q ≤ k ∧ m = .int .i64 q ∧ i = .int .i64 k ∧ Hid (q = shardOf (l.take k) key) ∧ ∃ n, wr = w.drewN n) (fun _ i _ => l.length - (intOf i).toNat)
  case atStart => exact ⟨0, 0, Nat.zero_le _, Nat.le_refl _, rfl, rfl, rfl, 0, rfl⟩
  case round =>
    obtain ⟨k, q, hk, hqk, rfl, rfl, H, n, rfl⟩ := hrel
    by_cases hlt : k < l.length
    · obtain ⟨ad, hA, q0⟩ := HR.out.str k _ (getD_at hlt)
      subst hA
      have HK : Hid (shardOf (l.take (k + 1)) key = shardOf (l.take k) key + (if leS (l.getD k ⟨#[]⟩) key = true then 1 else 0)) := by
        refine Lib.hid ?_
        unfold shardOf
        rw [List.take_add_one, getD_at hlt, List.countP_append, Option.toList_some, List.countP_cons, List.countP_nil, Nat.zero_add]
      have HL : Hid (leS (l.getD k ⟨#[]⟩) key = (Op.bytesLess (l.getD k ⟨#[]⟩).toList key.toList || (l.getD k ⟨#[]⟩).toList == key.toList)) := rfl
      generalize l.getD k ⟨#[]⟩ = s1 at *
      cases hb : Op.bytesLess s1.toList key.toList with
      | true =>
        have hq : q + 1 = shardOf (l.take (k + 1)) key := by rw [HK.out, ← H.out, HL.out, hb]; rfl
        have HQ := Lib.hid hq
        clear hq
        go_wp2
        go_roundw
        case rel => exact ⟨k + 1, q + 1, by omega, by omega, by go_num, by go_num, HQ.out, _, rfl⟩
        case measure => simp [intOf]; omega
      | false =>
        cases hq : (s1.toList == key.toList) with
        | true =>
          have hq' : q + 1 = shardOf (l.take (k + 1)) key := by rw [HK.out, ← H.out, HL.out, hb, hq]; rfl
          have HQ := Lib.hid hq'
          clear hq'
          go_wp2
          go_roundw
          case rel => exact ⟨k + 1, q + 1, by omega, by omega, by go_num, by go_num, HQ.out, _, rfl⟩
          case measure => simp [intOf]; omega
        | false =>
          have hq' : q = shardOf (l.take (k + 1)) key := by rw [HK.out, ← H.out, HL.out, hb, hq]; rfl
          have HQ := Lib.hid hq'
          clear hq'
          go_wp2
          go_roundw
          case rel => exact ⟨k + 1, q, by omega, by omega, rfl, by go_num, HQ.out, _, rfl⟩
          case measure => simp [intOf]; omega
    · obtain rfl : k = l.length := by omega
      have he : q = shardOf l key := by have := H.out; rwa [List.take_length] at this
      subst he
      go_wp2
      go_ret
      exact ⟨rfl, _, rfl⟩

set_option maxHeartbeats 4000000 in
theorem refRoute_any (A : Option Addr) (c : Nat) (l : List ByteArray) (w : World) (hc : l.length ≤ c) (hr : Row w A l.length 1 (strRow l)) (hl : l.length ≤ 9223372036854775807) :
    Calls Tryd.prog 13 #[.slice A l.length c] w fun e w' => e = .returned (.int .i64 (routeRight l)) ∧ ∃ n, w' = w.drewN n := by
  have HR := Lib.hid hr
  clear hr
  by_cases h7 : 7 < l.length
  · have e1 : routeRight l = 7 := by unfold routeRight; rw [if_pos h7]
    rw [e1]
    clear e1
    go_enter Tryd.func13, Tryd.ntmps13
    go_wp2
    go_ret
    exact ⟨rfl, 0, rfl⟩
  · have he : routeRight l = if l.any splitBad then 1 else if risesB l then 0 else 5 := by unfold routeRight; rw [if_neg h7]
    have HE := Lib.hid he
    clear he
    go_enter Tryd.func13, Tryd.ntmps13
    go_wp2
    go_loopw [2, 11] (fun r2 i wr => ∃ k : Nat, k ≤ l.length ∧ i = .int .i64 k ∧ Hid (∀ j, j < k → splitBad (l.getD j ⟨#[]⟩) = false) ∧ ∃ n, wr = w.drewN n) (fun _ i _ => l.length - (intOf i).toNat)
    case atStart => exact ⟨0, Nat.zero_le _, rfl, fun j hj => absurd hj (by omega), 0, rfl⟩
    case round =>
      obtain ⟨k, hk, rfl, H, n, rfl⟩ := hrel
      by_cases hlt : k < l.length
      · obtain ⟨ad, hA, q0⟩ := HR.out.str k _ (getD_at hlt)
        subst hA
        have HK : Hid (splitBad (l.getD k ⟨#[]⟩) = false → ∀ j, j < k + 1 → splitBad (l.getD j ⟨#[]⟩) = false) := fun h j hj => by
          by_cases hjk : j < k
          · exact H.out j hjk
          · obtain rfl : j = k := by omega
            exact h
        have HF : Hid (splitBad (l.getD k ⟨#[]⟩) = true → routeRight l = 1) := fun h => by rw [HE.out, if_pos (any_bad hlt h)]
        have HI : ∀ s : ByteArray, splitBad s = true ↔ (s.size : Int) = 0 ∨ 16 < (s.size : Int) := fun s => by
          have hs := size_empty s
          have h0 : s.toList = [] ↔ (s.size : Int) = 0 := by
            rw [← hs]
            have he : ByteArray.empty.toList = [] := by rw [ByteArray.toList_eq]; rfl
            exact ⟨fun h => str_inj (by rw [h, he]), by rintro rfl; exact he⟩
          unfold splitBad
          rw [Bool.or_eq_true, beq_iff_eq, decide_eq_true_eq, h0]
          omega
        generalize l.getD k ⟨#[]⟩ = s1 at *
        have HI1 := HI s1
        clear HI
        go_wp2
        all_goals first
          | (go_roundw
             case measure => simp [intOf]; omega
             case rel =>
               have hok : splitBad s1 = false := by
                 rw [← Bool.not_eq_true, HI1]; simp only [beq_iff_eq, beq_eq_false_iff_ne, ne_eq, size_empty] at *; omega
               exact ⟨k + 1, by omega, by go_num, HK.out hok, _, rfl⟩)
          | (have hok : splitBad s1 = true := by
               rw [HI1]; simp only [beq_iff_eq, beq_eq_false_iff_ne, ne_eq, size_empty] at *; omega
             have HZ := Lib.hid (HF.out hok)
             clear hok
             go_ret
             rw [HZ.out]
             exact ⟨rfl, _, rfl⟩)
      · obtain rfl : k = l.length := by omega
        have hno : l.any splitBad = false := none_bad H.out
        have HN := Lib.hid hno
        clear hno H
        go_wp2
        go_loopw [2, 5] (fun r2 i wr => ∃ k : Nat, 1 ≤ k ∧ (k ≤ l.length ∨ k = 1) ∧ i = .int .i64 k ∧ Hid (∀ j, j < k → (j == 0 || !(leS (l.getD j ⟨#[]⟩) (l.getD (j - 1) ⟨#[]⟩))) = true) ∧ ∃ n, wr = w.drewN n) (fun _ i _ => l.length - (intOf i).toNat)
        case atStart =>
          refine ⟨1, Nat.le_refl _, .inr rfl, rfl, fun j hj => ?_, _, rfl⟩
          obtain rfl : j = 0 := by omega
          rfl
        case round =>
          obtain ⟨k, hk1, hk, rfl, H, n, rfl⟩ := hrel
          by_cases hlt : k < l.length
          · obtain ⟨ad, hA, q0⟩ := HR.out.str k _ (getD_at hlt)
            subst hA
            obtain ⟨ad', hA', q1⟩ := HR.out.str (k - 1) _ (getD_at (by omega))
            injection hA' with hA'
            subst hA'
            have hkp : (k : Int) - 1 = ((k - 1 : Nat) : Int) := by omega
            have hz1 : (0 : Int) ≤ (k : Int) - 1 := by omega
            have hz2 : (k : Int) - 1 < (l.length : Int) := by omega
            have hz3 : ((k : Int) - 1).toNat = k - 1 := by omega
            have hz4 : (0 : Int) ≤ (k : Int) := by omega
            have hz5 : (k : Int) < (l.length : Int) := by omega
            have HK : Hid (leS (l.getD k ⟨#[]⟩) (l.getD (k - 1) ⟨#[]⟩) = false → ∀ j, j < k + 1 → (j == 0 || !(leS (l.getD j ⟨#[]⟩) (l.getD (j - 1) ⟨#[]⟩))) = true) := fun h j hj => by
              by_cases hjk : j < k
              · exact H.out j hjk
              · obtain rfl : j = k := by omega
                rw [h]
                simp
            have HF : Hid (leS (l.getD k ⟨#[]⟩) (l.getD (k - 1) ⟨#[]⟩) = true → routeRight l = 5) := fun h => by
              rw [HE.out, if_neg (by rw [HN.out]; simp), if_neg]
              have hrf : risesB l = false := by
                unfold risesB
                rw [List.all_eq_false]
                refine ⟨k, by simpa using hlt, ?_⟩
                have hN : (k == 0) = false := by simp; omega
                rw [hN, h]; simp
              rw [hrf]; simp
            clear hkp H
            generalize l.getD k ⟨#[]⟩ = s1 at *
            generalize l.getD (k - 1) ⟨#[]⟩ = s0 at *
            have HX : Hid (ltS s0 s1 = true ↔ leS s1 s0 = false) := not_leS.symm
            cases hb : Op.bytesLess s0.toList s1.toList with
            | true =>
              have HZ := Lib.hid (HK.out (HX.out.1 hb))
              go_wp2
              go_quiet (fail)
              go_wp2
              go_roundw
              case rel => exact ⟨k + 1, by omega, by omega, by go_num, HZ.out, _, rfl⟩
              case measure => simp [intOf]; omega
            | false =>
              have hle : leS s1 s0 = true := by
                cases hx : leS s1 s0 with
                | true => rfl
                | false =>
                  have := HX.out.2 hx
                  unfold ltS at this
                  rw [hb] at this
                  cases this
              have HZ := Lib.hid (HF.out hle)
              clear hle
              go_wp2
              go_quiet (fail)
              go_wp2
              go_ret
              rw [HZ.out]
              exact ⟨rfl, _, World.drewN_drewN _ _ _⟩
          · have he : routeRight l = 0 := by
              rw [HE.out, if_neg (by rw [HN.out]; simp), if_pos]
              unfold risesB
              rw [List.all_eq_true]
              intro j hj
              exact H.out j (by have := List.mem_range.1 hj; omega)
            have HZ := Lib.hid he
            clear he H
            go_wp2
            go_ret
            rw [HZ.out]
            exact ⟨rfl, _, rfl⟩
end Go.Proofs.YtheecdjpbfkpdaaDoor
