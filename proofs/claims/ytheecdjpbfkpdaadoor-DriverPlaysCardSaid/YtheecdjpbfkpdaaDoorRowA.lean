/-
  The arguments opened: rows of strings and of answers.
-/
import Derived.Test.YtheecdjpbfkpdaaDoorRowT
import Derived.Test.YtheecdjpbfkpdaaDoorPlay2
namespace Go.Proofs.YtheecdjpbfkpdaaDoor
open Go.ChangeShapes Go.WideShapes Go.ChangeAt Go.RowKit Go.Deep
set_option maxRecDepth 100000
set_option linter.unusedSimpArgs false
set_option linter.unusedVariables false
theorem strRow_flat (l : List ByteArray) : strRow l = l.flatMap (fun s : ByteArray => [Value.string s]) := by
  unfold strRow
  induction l with
  | nil => rfl
  | cons x r ih => simp [ih]
section
variable {H : Type} {enc : TypeId × Value → H} {w : World} {base : Nat} {spare : Nat → Bool} {held : Bool}
theorem open_strs {fuel : Nat} {cs : List Value} {x : DataW H × List MemPlace} (h : DataW.trod enc Tryd.prog w base spare held fuel 30 cs = some x) :
    ∃ (A : Option Addr) (l : List ByteArray) (cap : Nat), cs = [.slice A l.length cap] ∧ l.length ≤ cap ∧ cap ≤ maxLen ∧ Row w A l.length 1 (strRow l) := by
  rcases open_slice Tryd.underlying30 h with ⟨rfl, _⟩ | ⟨a, len, cap, m, n, D, Pl, rfl, _, hl, hm, hmm, _, hf⟩
  · exact ⟨none, [], 0, rfl, Nat.le_refl _, Nat.zero_le _, Row.nil _ _ _⟩
  · have hlm : len ≤ m := by rw [hmm]; split <;> omega
    have hc1 : Tryd.prog.cellsOf 9 = 1 := by kernel_rfl
    rw [hc1] at hf
    obtain ⟨l, hll, _, hr⟩ := row_of (fun s : ByteArray => [Value.string s]) 1 (fun _ => rfl) (fun _ => True) w a len (fun i hi => by
      obtain ⟨cs', hcs, ht⟩ := hf i (by omega)
      obtain ⟨_, hcl, hat⟩ := World.cells?_some hcs
      have hv : cs'[0]? = some (cs'[0]'(by omega)) := List.getElem?_eq_getElem (by omega)
      have hone : cs' = [cs'[0]'(by omega)] := by
        match cs', hcl with
        | [v], _ => rfl
      rw [hone] at ht
      obtain ⟨s, e, _, _⟩ := DataW.trod_string Tryd.underlying9 ht
      have hs : cs'[0]'(by omega) = .string s := cell1 e
      have hcell := hat 0 (by omega)
      rw [hv, hs] at hcell
      refine ⟨s, trivial, fun j u hj => ?_⟩
      match j, hj with
      | 0, hj =>
        injection hj with hj
        rw [← hj, ← Go.Deep.add_add]
        exact hcell)
    subst hll
    refine ⟨some a, l, cap, rfl, hl, hm, ?_⟩
    rw [strRow_flat]
    exact hr
theorem open_answers {fuel : Nat} {cs : List Value} {x : DataW H × List MemPlace} (h : DataW.trod enc Tryd.prog w base spare held fuel 44 cs = some x) :
    ∃ (A : Option Addr) (l : List AnsS) (cap : Nat), cs = [.slice A l.length cap] ∧ l.length ≤ cap ∧ cap ≤ maxLen ∧ Row w A l.length 5 (ansRow l) := by
  rcases open_slice Tryd.underlying44 h with ⟨rfl, _⟩ | ⟨a, len, cap, m, n, D, Pl, rfl, _, hl, hm, hmm, _, hf⟩
  · exact ⟨none, [], 0, rfl, Nat.le_refl _, Nat.zero_le _, Row.nil _ _ _⟩
  · have hlm : len ≤ m := by rw [hmm]; split <;> omega
    have hc5 : Tryd.prog.cellsOf 49 = 5 := by kernel_rfl
    have hc1 : Tryd.prog.cellsOf 4 = 1 := by kernel_rfl
    have hc4 : Tryd.prog.cellsOf 36 = 4 := by kernel_rfl
    have hci : Tryd.prog.cellsOf 3 = 1 := by kernel_rfl
    have hce : Tryd.prog.cellsOf 27 = 1 := by kernel_rfl
    have hcs_ : Tryd.prog.cellsOf 9 = 1 := by kernel_rfl
    rw [hc5] at hf
    obtain ⟨l, hll, _, hr⟩ := row_of ansCells 5 (fun _ => rfl) (fun _ => True) w a len (fun i hi => by
      obtain ⟨cs', hcs, ht⟩ := hf i (by omega)
      obtain ⟨_, hcl, hat⟩ := World.cells?_some hcs
      match cs', hcl, hat, ht with
      | [v0, v1, v2, v3, v4], _, hat, ht =>
      obtain ⟨ys, n', _, _, _, hyl, hy⟩ := DataW.trod_struct Tryd.underlying49 ht
      have hyl2 : ys.length = 2 := hyl
      have f0 := hy 0 _ rfl
      have f1 := hy 1 _ rfl
      change DataW.trod enc Tryd.prog w base spare held n' 4 (([v0, v1, v2, v3, v4].drop 0).take (Tryd.prog.cellsOf 4)) = _ at f0
      change DataW.trod enc Tryd.prog w base spare held n' 36 (([v0, v1, v2, v3, v4].drop 1).take (Tryd.prog.cellsOf 36)) = _ at f1
      rw [hc1, List.getElem?_eq_getElem (by omega)] at f0
      rw [hc4, List.getElem?_eq_getElem (by omega)] at f1
      obtain ⟨b0, e0, _⟩ := DataW.trod_bool Tryd.underlying4 f0
      obtain ⟨zs, n2, _, _, _, hzl, hz⟩ := DataW.trod_struct Tryd.underlying36 f1
      have hzl2 : zs.length = 4 := hzl
      have g0 := hz 0 _ rfl
      have g1 := hz 1 _ rfl
      have g2 := hz 2 _ rfl
      have g3 := hz 3 _ rfl
      change DataW.trod enc Tryd.prog w base spare held n2 27 (([v1, v2, v3, v4].drop 0).take (Tryd.prog.cellsOf 27)) = _ at g0
      change DataW.trod enc Tryd.prog w base spare held n2 3 (([v1, v2, v3, v4].drop 1).take (Tryd.prog.cellsOf 3)) = _ at g1
      change DataW.trod enc Tryd.prog w base spare held n2 9 (([v1, v2, v3, v4].drop 2).take (Tryd.prog.cellsOf 9)) = _ at g2
      change DataW.trod enc Tryd.prog w base spare held n2 4 (([v1, v2, v3, v4].drop 3).take (Tryd.prog.cellsOf 4)) = _ at g3
      rw [hce, List.getElem?_eq_getElem (by omega)] at g0
      rw [hci, List.getElem?_eq_getElem (by omega)] at g1
      rw [hcs_, List.getElem?_eq_getElem (by omega)] at g2
      rw [hc1, List.getElem?_eq_getElem (by omega)] at g3
      obtain ⟨k1, e1, _, _⟩ := DataW.trod_int Tryd.underlying27 g0
      obtain ⟨k2, e2, _, _⟩ := DataW.trod_int Tryd.underlying3 g1
      obtain ⟨s3, e3, _, _⟩ := DataW.trod_string Tryd.underlying9 g2
      obtain ⟨b4, e4, _⟩ := DataW.trod_bool Tryd.underlying4 g3
      have x0 : v0 = .bool b0 := cell1 e0
      have x1 : v1 = .int .i64 k1 := cell1 e1
      have x2 : v2 = .int .i64 k2 := cell1 e2
      have x3 : v3 = .string s3 := cell1 e3
      have x4 : v4 = .bool b4 := cell1 e4
      subst x0 x1 x2 x3 x4
      have hcell := fun (j : Nat) (hj : j < 5) => hat j hj
      refine ⟨⟨b0, k1, k2, s3, b4⟩, trivial, fun j u hj => ?_⟩
      rw [← Go.Deep.add_add]
      match j, hj with
      | 0, hj => exact (hcell 0 (by omega)).trans hj
      | 1, hj => exact (hcell 1 (by omega)).trans hj
      | 2, hj => exact (hcell 2 (by omega)).trans hj
      | 3, hj => exact (hcell 3 (by omega)).trans hj
      | 4, hj => exact (hcell 4 (by omega)).trans hj)
    subst hll
    exact ⟨some a, l, cap, rfl, hl, hm, hr⟩
end
end Go.Proofs.YtheecdjpbfkpdaaDoor
