/-
  Walks for the law DriverPlays: few, the document's New, two lists of results.
-/
import Derived.Test.YtheecdjpbfkpdaaDoorRw8
import Derived.Test.YtheecdjpbfkpdaaDoorRes
namespace Go.Proofs.YtheecdjpbfkpdaaDoor
open Go.RowKit
set_option maxRecDepth 100000
set_option linter.unusedSimpArgs false
set_option linter.unusedVariables false

def SomeBool (w : World) (e : Ending) (w' : World) : Prop := ∃ b, e = .returned (.bool b) ∧ Below w.heap.size w w'
set_option maxHeartbeats 1000000 in
theorem few2_any (B : Option Addr) (d : Nat) (sp : List ByteArray) (A : Option Addr) (c : Nat) (l : List OpS) (w : World) (hd : sp.length ≤ d) (hs : Row w B sp.length 1 (strRow sp)) (hsl : sp.length ≤ 9223372036854775807) (hc : l.length ≤ c) (hr : Row w A l.length 4 (opRow l)) (hl : l.length ≤ 9223372036854775807) :
    Calls Tryd.prog 6 #[.slice B sp.length d, .slice A l.length c] w (SomeBool w) := by
  have HR := Lib.hid hr
  have HS := Lib.hid hs
  clear hr hs
  go_enter Tryd.func6, Tryd.ntmps6
  go_wp2
  go_loopw [4, 11] (fun s4 i wr => ∃ k : Nat, k ≤ sp.length ∧ i = .int .i64 k ∧ Hid (Below w.heap.size w wr)) (fun _ i _ => sp.length - (intOf i).toNat)
  case atStart => exact ⟨0, Nat.zero_le _, rfl, Below.refl _ _⟩
  case round =>
    obtain ⟨k, hk, rfl, HB⟩ := hrel
    by_cases hlt : k < sp.length
    · obtain ⟨ad, hA, q0⟩ := (HS.out.below HB.out).str k _ (getD_at hlt)
      subst hA
      generalize sp.getD k ⟨#[]⟩ = s1 at *
      go_wp2
      all_goals first
        | (go_roundw
           case measure => simp [intOf]; omega
           case rel => exact ⟨k + 1, by omega, by go_num, HB.out⟩)
        | (go_ret
           exact ⟨_, rfl, HB.out⟩)
    · obtain rfl : k = sp.length := by omega
      go_wp2
      go_loopw [4, 21] (fun s4 i wr => ∃ k : Nat, k ≤ l.length ∧ i = .int .i64 k ∧ Hid (Below w.heap.size w wr)) (fun _ i _ => l.length - (intOf i).toNat)
      case atStart => exact ⟨0, Nat.zero_le _, rfl, HB.out⟩
      case round =>
        clear HB hk hlt
        obtain ⟨k, hk, rfl, HB⟩ := hrel
        by_cases hlt : k < l.length
        · obtain ⟨ad, hA, q0, q1, q2, q3⟩ := (HR.out.below HB.out).op k _ (opD_at hlt)
          subst hA
          have hbl := World.block_lt_of_cell? _ _ q0
          generalize opD l k = o at *
          go_wp2
          all_goals first
            | (go_roundw
               case measure => simp [intOf]; omega
               case rel => exact ⟨k + 1, by omega, by go_num, HB.out.alloc HB.out.size _⟩)
            | (go_ret
               exact ⟨_, rfl, HB.out.alloc HB.out.size _⟩)
        · obtain rfl : k = l.length := by omega
          go_wp2
          all_goals
            go_ret
            exact ⟨_, rfl, HB.out⟩

set_option maxHeartbeats 1000000 in
theorem refNew_any (tx stamp tries : Int) (B : Option Addr) (d : Nat) (sp : List ByteArray) (A : Option Addr) (c : Nat) (l : List OpS) (W w : World) (hb : Below W.heap.size W w) (hd : sp.length ≤ d) (hs : Row W B sp.length 1 (strRow sp)) (hc : l.length ≤ c) (hr : Row W A l.length 4 (opRow l)) :
    Calls Tryd.prog 14 #[.int .i64 tx, .int .i64 stamp, .slice B sp.length d, .slice A l.length c, .int .i64 tries] w fun e w' => (∃ g M, e = .returned (.pointer (some ⟨g, 0, none⟩)) ∧ Ref W w' g M (RS.start tx stamp tries sp l) ∧ M.rV.ownBlock = none ∧ w.heap.size ≤ g) ∧ Below w.heap.size w w' := by
  have HR := Lib.hid hr
  have HS := Lib.hid hs
  have HB := Lib.hid hb
  clear hr hs hb
  go_enter Tryd.func14, Tryd.ntmps14
  go_wp2
  go_ret
  refine ⟨⟨_, ⟨B, d, A, c, .slice none 0 0⟩, rfl, ⟨?_, ?_, Blk.new _ _ _, hd, hc, HS.out, HR.out, World.ownsRow_nil _ _ _ _⟩, rfl, Nat.le_refl _⟩, (Below.refl _ _).alloc (Nat.le_refl _) _⟩
  · exact HB.out.size
  · exact HB.out.alloc HB.out.size _

set_option maxHeartbeats 1000000 in
theorem sameRes_self (A B : Option Addr) (c d : Nat) (l : List ResS) (w : World) (hc : l.length ≤ c) (hd : l.length ≤ d) (ha : Row w A l.length 2 (resRow l)) (hb : Row w B l.length 2 (resRow l)) (hl : l.length ≤ 4096) :
    Calls Tryd.prog 19 #[.slice A l.length c, .slice B l.length d] w fun e w' => e = .returned (.bool true) ∧ ∃ n, w' = w.drewN n := by
  have HA := Lib.hid ha
  have HB := Lib.hid hb
  clear ha hb
  go_enter Tryd.func19, Tryd.ntmps19
  go_wp2
  go_loopw [5, 13] (fun s5 i wr => ∃ k : Nat, k ≤ l.length ∧ i = .int .i64 k ∧ ∃ n, wr = w.drewN n) (fun _ i _ => l.length - (intOf i).toNat)
  case atStart => exact ⟨0, Nat.zero_le _, rfl, 0, rfl⟩
  case round =>
    obtain ⟨k, hk, rfl, n, rfl⟩ := hrel
    by_cases hlt : k < l.length
    · obtain ⟨ad, hA, q0, q1⟩ := HA.out.res2 k _ (List.getElem?_eq_getElem hlt)
      obtain ⟨ad', hB, r0, r1⟩ := HB.out.res2 k _ (List.getElem?_eq_getElem hlt)
      subst hA hB
      generalize l[k] = x at *
      have z1 : (0 : Int) ≤ (k : Int) := by omega
      have z2 : (k : Int) < (l.length : Int) := by omega
      go_wp2
      go_quiet (fail)
      go_wp2
      go_roundw
      case rel => exact ⟨k + 1, by omega, by go_num, _, rfl⟩
      case measure => simp [intOf]; omega
    · obtain rfl : k = l.length := by omega
      go_wp2
      go_ret
      exact ⟨rfl, _, rfl⟩
end Go.Proofs.YtheecdjpbfkpdaaDoor
