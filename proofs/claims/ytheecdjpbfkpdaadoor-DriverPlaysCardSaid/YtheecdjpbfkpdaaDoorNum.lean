/-
  Walks: the plan's Text and Number, out of the shelf's strconv.
-/
import Derived.Test.YtheecdjpbfkpdaaDoorShelfDrv
import Derived.Test.YtheecdjpbfkpdaaDoorPl
import Derived.Lib.AtoiAllCases
import Derived.Lib.ConvBytes
namespace Go.Proofs.YtheecdjpbfkpdaaDoor
open Go.RowKit Go.Sort
set_option maxRecDepth 100000
set_option linter.unusedSimpArgs false
set_option linter.unusedVariables false

/-- strconv's package-level variables read as the program's text lays them. -/
structure Glob (w : World) : Prop where
  tab : Lib.TabIs Tryd.prog w "internal/strconv.uint64pow10" .u64 Lib.pow10Tab
  syn : ∃ tp p, w.var? Tryd.prog "strconv.ErrSyntax" = some #[.iface tp p]
  rng : ∃ tp p, w.var? Tryd.prog "strconv.ErrRange" = some #[.iface tp p]
theorem Glob.keep {w w' : World} (h : Glob w) (hk : ∀ k, k < 3 → w'.heap[k]? = w.heap[k]?) : Glob w' := by
  have hv : ∀ n g, Tryd.prog.globalNamed n = some g → g < 3 → w'.var? Tryd.prog n = w.var? Tryd.prog n := fun n g hg hlt => by
    unfold World.var?
    simp only [hg, Option.bind_some, hk g hlt]
  refine ⟨?_, ?_, ?_⟩
  · have e := hv "internal/strconv.uint64pow10" 2 (by kernel_rfl) (by decide)
    unfold Lib.TabIs
    rw [e]
    exact h.tab
  · rw [hv "strconv.ErrSyntax" 0 (by kernel_rfl) (by decide)]; exact h.syn
  · rw [hv "strconv.ErrRange" 1 (by kernel_rfl) (by decide)]; exact h.rng
theorem Glob.below {w w' : World} {B : Nat} (h : Glob w) (hb : Below B w w') (hB : 3 ≤ B) : Glob w' := h.keep (fun k hk => hb.block k (by omega))

theorem below_grow (w : World) (q : Nat) (os : Array Obj) : Below w.heap.size w (grow (w.drewN q) os) :=
  ⟨rfl, rfl, rfl, by show w.heap.size ≤ (w.heap ++ os).size; rw [Array.size_append]; omega, fun i hi => by
    show (w.heap ++ os)[i]? = _
    rw [Array.getElem?_append_left hi]⟩
theorem below_bytes (w : World) (e : TypeId) (s : ByteArray) : Below w.heap.size w (Lib.bytesWorld w e s) :=
  ⟨rfl, rfl, rfl, by rw [Lib.bytesWorld_size]; omega, fun i hi => Lib.bytesWorld_at_old w e s i hi⟩

/-- A number's text; a text's number. -/
def textS (n : Int) : ByteArray := ⟨(Lib.itoa n).toArray⟩
def numberS (s : ByteArray) : Int := match Lib.atoiAll s.data.toList with
  | .ok v => if textS v = s ∧ clampI v = v then v else 0
  | _ => 0

set_option maxHeartbeats 400000 in
theorem text_any (n : Int) (h0 : -9223372036854775808 ≤ n) (h1 : n ≤ 9223372036854775807) (w : World) (hG : Glob w) :
    Calls Tryd.prog 59 #[.int .i64 n] w fun e w' => e = .returned (.string (textS n)) ∧ Below w.heap.size w w' := by
  have hc := Lib.hid (Any.strconv_Itoa Tryd.laysItoa n h0 h1 w hG.tab)
  clear h0 h1 hG
  go_enter Tryd.func59, Tryd.ntmps59
  go_wp2_with fail
  refine hc.out.mono ?_
  rintro e w' ⟨rfl, k, os, rfl⟩
  have hb := Lib.hid (below_grow w k os)
  generalize grow (w.drewN k) os = w1 at *
  go_wp2_with fail
  go_ret
  exact ⟨rfl, hb.out⟩

theorem atoi_err (s : ByteArray) (hs : s.size ≤ 281474976710656) (h : ∀ v, Lib.atoiAll s.data.toList ≠ .ok v) (w : World) (hG : Glob w) :
    Calls Tryd.prog 64 #[.string s] w fun e w' => ∃ x N, e = .returned (.tuple #[.int .i64 x, .iface 103 (.pointer (some ⟨N, 0, none⟩))]) ∧ Below w.heap.size w w' := by
  cases hx : Lib.atoiAll s.data.toList with
  | ok v => exact absurd hx (h v)
  | range =>
    obtain ⟨tp, p, hv⟩ := hG.rng
    refine (Any.strconv_Atoi_range_var Tryd.laysAtoi s hs hx tp p w hv).mono ?_
    rintro e w' ⟨N, rfl, _, _, hb⟩
    exact ⟨_, N, rfl, hb⟩
  | _ =>
    obtain ⟨tp, p, hv⟩ := hG.syn
    refine (Any.strconv_Atoi_syntax_var Tryd.laysAtoi s hs hx tp p w hv).mono ?_
    rintro e w' ⟨N, rfl, _, _, hb⟩
    exact ⟨0, N, rfl, hb⟩

theorem atoi_ok (s : ByteArray) (hs : s.size ≤ 281474976710656) (v : Int) (h : Lib.atoiAll s.data.toList = .ok v) (w : World) :
    Calls Tryd.prog 64 #[.string s] w fun e w' => e = .returned (.tuple #[.int .i64 v, .nilIface]) ∧ Below w.heap.size w w' := by
  refine (Any.strconv_Atoi_ok Tryd.laysAtoi s (by omega) v h w).mono ?_
  rintro e w' ⟨rfl, rfl | ⟨t, rfl⟩⟩
  · exact ⟨rfl, Below.refl _ _⟩
  · exact ⟨rfl, below_bytes _ _ _⟩

set_option maxHeartbeats 400000 in
theorem number_any (s : ByteArray) (hs : s.size ≤ 281474976710656) (w : World) (hG : Glob w) (hw : 3 ≤ w.heap.size) :
    Calls Tryd.prog 58 #[.string s] w fun e w' => e = .returned (.int .i64 (numberS s)) ∧ Below w.heap.size w w' := by
  by_cases hx : ∃ v, Lib.atoiAll s.data.toList = .ok v
  · obtain ⟨v, hv⟩ := hx
    obtain ⟨hb0, hb1⟩ := Lib.atoiAll_bounds hv
    have hA := Lib.hid (atoi_ok s hs v hv w)
    have HG := Lib.hid hG
    by_cases ht : textS v = s
    · by_cases hcl : clampI v = v
      · have e1 : numberS s = v := by unfold numberS; rw [hv]; simp only; rw [if_pos ⟨ht, hcl⟩]
        rw [e1]
        have HT := Lib.hid ht
        have HC := Lib.hid hcl
        clear hv e1 hG hcl ht
        go_enter Tryd.func58, Tryd.ntmps58
        go_wp2_with fail
        refine hA.out.mono ?_
        rintro e w1 ⟨rfl, hb1⟩
        have hG1 := Lib.hid (HG.out.below hb1 hw)
        have hB := Lib.hid hb1
        clear hb1
        go_wp2_with fail
        refine (text_any v hb0 (by assumption) _ hG1.out).mono ?_
        rintro e w2 ⟨rfl, hb2⟩
        have hB2 := Lib.hid (hB.out.trans (hb2.mono hB.out.size))
        clear hb2
        rw [HT.out]
        have hne : (s.toList != s.toList) = false := by simp
        go_wp2_with fail
        refine (clamp_any v _).mono ?_
        rintro e w3 ⟨rfl, q, rfl⟩
        rw [HC.out]
        go_wp2_with fail
        go_ret
        exact ⟨rfl, below_drewN hB2.out _⟩
      · have e1 : numberS s = 0 := by unfold numberS; rw [hv]; simp only; rw [if_neg (fun h => hcl h.2)]
        rw [e1]
        have HT := Lib.hid ht
        have HC : (clampI v != v) = true := by simpa using hcl
        have HC2 : (clampI v == v) = false := by simpa using hcl
        clear hv e1 hG hcl ht
        go_enter Tryd.func58, Tryd.ntmps58
        go_wp2_with fail
        refine hA.out.mono ?_
        rintro e w1 ⟨rfl, hb1⟩
        have hG1 := Lib.hid (HG.out.below hb1 hw)
        have hB := Lib.hid hb1
        clear hb1
        go_wp2_with fail
        refine (text_any v hb0 (by assumption) _ hG1.out).mono ?_
        rintro e w2 ⟨rfl, hb2⟩
        have hB2 := Lib.hid (hB.out.trans (hb2.mono hB.out.size))
        clear hb2
        rw [HT.out]
        have hne : (s.toList != s.toList) = false := by simp
        go_wp2_with fail
        refine (clamp_any v _).mono ?_
        rintro e w3 ⟨rfl, q, rfl⟩
        go_wp2_with fail
        go_ret
        exact ⟨rfl, below_drewN hB2.out _⟩
    · have e1 : numberS s = 0 := by unfold numberS; rw [hv]; simp only; rw [if_neg (fun h => ht h.1)]
      rw [e1]
      have h1 : ((textS v).toList == s.toList) = false := by
        rw [beq_eq_false_iff_ne]
        exact fun h => ht (str_inj h)
      have h2 : ((textS v).toList != s.toList) = true := by
        rw [bne_iff_ne]
        exact fun h => ht (str_inj h)
      clear hv e1 hG ht
      go_enter Tryd.func58, Tryd.ntmps58
      go_wp2_with fail
      refine hA.out.mono ?_
      rintro e w1 ⟨rfl, hb1⟩
      have hG1 := Lib.hid (HG.out.below hb1 hw)
      have hB := Lib.hid hb1
      clear hb1
      go_wp2_with fail
      refine (text_any v hb0 (by assumption) _ hG1.out).mono ?_
      rintro e w2 ⟨rfl, hb2⟩
      have hB2 := Lib.hid (hB.out.trans (hb2.mono hB.out.size))
      clear hb2
      go_wp2_with fail
      go_ret
      exact ⟨rfl, hB2.out⟩
  · have hne : ∀ v, Lib.atoiAll s.data.toList ≠ .ok v := fun v h => hx ⟨v, h⟩
    have e1 : numberS s = 0 := by
      unfold numberS
      split
      · rename_i v h; exact absurd h (hne v)
      · rfl
    rw [e1]
    have hA := Lib.hid (atoi_err s hs hne w hG)
    clear hx hne e1 hG
    go_enter Tryd.func58, Tryd.ntmps58
    go_wp2_with fail
    refine hA.out.mono ?_
    rintro e w1 ⟨x, N, rfl, hb1⟩
    have hB := Lib.hid hb1
    clear hb1
    go_wp2_with fail
    go_ret
    exact ⟨rfl, hB.out⟩
end Go.Proofs.YtheecdjpbfkpdaaDoor
