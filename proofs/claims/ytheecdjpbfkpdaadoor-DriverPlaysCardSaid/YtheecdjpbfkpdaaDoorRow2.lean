/-
  The tied card of the law DriverPlays: for every input the law returns true, and each argument reads as it did.
-/
import Derived.Test.YtheecdjpbfkpdaaDoorRowA
import Derived.Test.YtheecdjpbfkpdaaDoorPlay2
import Derived.Test.YtheecdjpbfkpdaaDoorTie
import Derived.Test.YtheecdjpbfkpdaaDoorCards
import Derived.Stop.Joined
import Derived.SevenTiedAt
namespace Go.Proofs.YtheecdjpbfkpdaaDoor
open Go.ChangeShapes Go.WideShapes Go.ChangeAt Go.RowKit Go.Deep
set_option maxRecDepth 100000
set_option linter.unusedSimpArgs false
set_option linter.unusedVariables false

theorem own : ownKnob Tryd.prog.godebug = none := by kernel_rfl
theorem laidOut : laidOutB Tryd.prog = true := by kernel_rfl
theorem door_met (os : Os) (args : Array Value) : laidMetH Tryd.prog Rows.driverPlaysRow.laid ((World.doorLaid Tryd.prog 62 os).forCall (fun _ _ => 0) ⟨#[], args, []⟩).memory :=
  laidMetH_of_parts3 (fuel := 8) (laidMet_of_run' 8 (by kernel_rfl) (by kernel_rfl)) (by kernel_rfl) (by kernel_rfl)

theorem star : "*" ++ "errors.errorString" = "*errors.errorString" := by decide
theorem row_err (u : TypeId) (h : Tryd.prog.typeName? 3 u = some "*errors.errorString") : u = 122 :=
  typeName_ptr_named (nm := "errors.errorString") (by rw [star]; kernel_rfl) (by kernel_rfl) (by decide) u (by rw [star]; exact h)

theorem of_laid {W : World} (h : laidMetH Tryd.prog Rows.driverPlaysRow.laid W) : Glob W := by
  rw [MakeChecks.laidMetH_plain _ _ _ (by kernel_rfl)] at h
  have h' : laidMet Tryd.prog [("math/bits.deBruijn32tab", Rows.laid_math_bits_deBruijn32tab), ("math/bits.deBruijn64tab", Rows.laid_math_bits_deBruijn64tab), ("internal/strconv.uint64pow10", Lib.tabData .u64 Lib.pow10Tab), ("strconv.ErrRange", Rows.laid_strconv_ErrRange), ("strconv.ErrSyntax", Rows.laid_strconv_ErrSyntax)] W := h
  have h3 := h'.tail.tail
  refine ⟨?_, ?_, ?_⟩
  · exact Lib.tabIs_of_head (g := 2) (t := 126) (e := 107) (n := 20) (by kernel_rfl) (by kernel_rfl) (by kernel_rfl) (by kernel_rfl) (by kernel_rfl) (by kernel_rfl) h3
  · obtain ⟨a, s, hv, _⟩ := laid_sentinel h3.tail.tail (g := 0) (by kernel_rfl) (by kernel_rfl) Tryd.underlying95 row_err Tryd.underlying122 Tryd.underlying124 rfl rfl Tryd.underlying9 (by kernel_rfl) (by kernel_rfl)
    exact ⟨_, _, hv⟩
  · obtain ⟨a, s, hv, _⟩ := laid_sentinel h3.tail (g := 1) (by kernel_rfl) (by kernel_rfl) Tryd.underlying95 row_err Tryd.underlying122 Tryd.underlying124 rfl rfl Tryd.underlying9 (by kernel_rfl) (by kernel_rfl)
    exact ⟨_, _, hv⟩

set_option maxRecDepth 100000 in
theorem lifted (os : Os) (started : os.Started) (H : Type) (enc : TypeId × Value → H) :
    ReturnsInHanded {} Tryd.checked os 4 .any (fun w args => (Rows.driverPlaysSpec.pre enc Tryd.prog Tryd.f4 [] false w args ∧ laidMetH Tryd.prog Rows.driverPlaysRow.laid w) ∧ sizedMet enc Tryd.prog Tryd.f4 (OpenSpec.ofChange Rows.driverPlaysSpec) false w args)
      (Rows.driverPlaysSpec.post enc Tryd.prog Tryd.f4 false true false false) := by
  refine returnsInHanded_of_change_and (C := Tryd.checked) (X := fun w _ => laidMetH Tryd.prog Rows.driverPlaysRow.laid w) (fun _ _ _ hh h => h.of_heap hh) own started (by kernel_rfl) Tryd.func4
    (ChangeSpec.witness_shaped (enc := enc) (C := Tryd.checked) (os := os) (X := fun w _ => laidMetH Tryd.prog Rows.driverPlaysRow.laid w) false (World.doorLaid Tryd.prog 62 os) #[.int .i64 0, .int .i64 0, .int .i64 0, .slice none 0 0, .slice none 0 0, .slice none 0 0] 8 rfl (World.shaped_of_RefB (by kernel_rfl) (by kernel_rfl)) (by kernel_rfl) (by kernel_rfl) (by kernel_rfl) (door_met os _)) ?_
  intro W base args ds gs before hval0 hW _ hsz hL _
  have hval : ∀ (j : Nat) t v, Tryd.f4.params[j]? = some t → args[j]? = some v → Value.okWide Tryd.prog W .any base t v := hval0
  have hW' := hW
  obtain ⟨p, q, hA0, hV, rfl, hfz, hnd⟩ := hW
  have hA : DataW.TrodAll enc Tryd.prog W 0 (fun _ => true) true Tryd.f4.params.toList args.toList ds p := hA0
  have hparams : Tryd.f4.params = #[3, 3, 3, 30, 22, 44] := Tryd.params4
  rw [hparams] at hA hval
  obtain ⟨v0, vs0, d0, ds0, p0, q0, hargs, rfl, rfl, h0, r0⟩ := trodAll_cons hA
  obtain ⟨v1, vs1, d1, ds1, p1, q1, rfl, rfl, rfl, h1, r1⟩ := trodAll_cons r0
  obtain ⟨v2, vs2, d2, ds2, p2, q2, rfl, rfl, rfl, h2, r2⟩ := trodAll_cons r1
  obtain ⟨v3, vs3, d3, ds3, p3, q3, rfl, rfl, rfl, h3, r3⟩ := trodAll_cons r2
  obtain ⟨v4, vs4, d4, ds4, p4, q4, rfl, rfl, rfl, h4, r4⟩ := trodAll_cons r3
  obtain ⟨v5, vs5, d5, ds5, p5, q5, rfl, rfl, rfl, h5, r5⟩ := trodAll_cons r4
  obtain ⟨rfl, rfl, rfl⟩ := trodAll_nil r5
  obtain rfl : args = #[v0, v1, v2, v3, v4, v5] := by cases args; simp_all
  obtain ⟨rfl, rfl⟩ := trodVars_none hV
  obtain ⟨tx, rfl, rfl, rfl, w0⟩ := open_int Tryd.underlying3 (hval 0 3 v0 rfl rfl) h0
  obtain ⟨stamp, rfl, rfl, rfl, w1⟩ := open_int Tryd.underlying3 (hval 1 3 v1 rfl rfl) h1
  obtain ⟨tries, rfl, rfl, rfl, w2⟩ := open_int Tryd.underlying3 (hval 2 3 v2 rfl rfl) h2
  have hv3 := hval 3 30 v3 rfl rfl
  have hv4 := hval 4 22 v4 rfl rfl
  have hv5 := hval 5 44 v5 rfl rfl
  obtain ⟨a3, n3, c3, rfl⟩ := okWide_slice Tryd.underlying30 hv3
  obtain ⟨a4, n4, c4, rfl⟩ := okWide_slice Tryd.underlying22 hv4
  obtain ⟨a5, n5, c5, rfl⟩ := okWide_slice Tryd.underlying44 hv5
  have h3k := h3
  have h4k := h4
  have h5k := h5
  obtain ⟨f3, h3⟩ := h3
  obtain ⟨f4, h4⟩ := h4
  obtain ⟨f5, h5⟩ := h5
  obtain ⟨A3, sp, C3, e3, g3, m3, R3⟩ := open_strs h3
  obtain ⟨A4, l, C4, e4, g4, m4, R4, S4⟩ := open_ops h4
  obtain ⟨A5, told, C5, e5, g5, m5, R5⟩ := open_answers h5
  have e3' : Value.slice a3 n3 c3 = .slice A3 sp.length C3 := by simpa [Value.cells] using e3
  have e4' : Value.slice a4 n4 c4 = .slice A4 l.length C4 := by simpa [Value.cells] using e4
  have e5' : Value.slice a5 n5 c5 = .slice A5 told.length C5 := by simpa [Value.cells] using e5
  injection e3' with x1 x2 x3
  injection e4' with y1 y2 y3
  injection e5' with z1 z2 z3
  subst x1 x2 x3 y1 y2 y3 z1 z2 z3
  have hG := of_laid hL
  clear hA0 hval0
  simp only [List.append_nil] at hW'
  have hlt := hW'.lt
  have hl3 : ∀ x ∈ p3, x.block < W.heap.size := fun x hx => by simpa using hlt x (by simp [hx])
  have hl4 : ∀ x ∈ p4, x.block < W.heap.size := fun x hx => by simpa using hlt x (by simp [hx])
  have hl5 : ∀ x ∈ p5, x.block < W.heap.size := fun x hx => by simpa using hlt x (by simp [hx])
  have hmx : maxLen = 9223372036854775807 := by decide
  have hargs : ∀ (W' : World), Below W.heap.size W W' → DataW.TrodAll enc Tryd.prog W' 0 (fun b => decide (b < W.heap.size)) true [3, 3, 3, 30, 22, 44] [.int .i64 tx, .int .i64 stamp, .int .i64 tries, .slice a3 sp.length c3, .slice a4 l.length c4, .slice a5 told.length c5] [.lit (.int .i64 tx), .lit (.int .i64 stamp), .lit (.int .i64 tries), d3, d4, d5] ([] ++ ([] ++ ([] ++ (p3 ++ (p4 ++ (p5 ++ [])))))) :=
    fun W' hn => trodAll_cons_mk (shut_int Tryd.underlying3 w0) (trodAll_cons_mk (shut_int Tryd.underlying3 w1) (trodAll_cons_mk (shut_int Tryd.underlying3 w2) (trodAll_cons_mk (Below.trod laidOut (by kernel_rfl) (of_decide_eq_true (by kernel_rfl)) h3k hn hl3) (trodAll_cons_mk (Below.trod laidOut (by kernel_rfl) (of_decide_eq_true (by kernel_rfl)) h4k hn hl4) (trodAll_cons_mk (Below.trod laidOut (by kernel_rfl) (of_decide_eq_true (by kernel_rfl)) h5k hn hl5) trodAll_mk0)))))
  refine (driverPlays_any tx stamp tries a3 c3 sp a4 c4 l a5 c5 told W hG hG.big g3 (slice_addr Tryd.underlying30 hv3) R3 (by omega) g4 (slice_addr Tryd.underlying22 hv4) R4 (by omega) g5 R5 (by omega)).mono fun e W' ⟨he, bel⟩ => ?_
  subst he
  refine ⟨_, rfl, ?_⟩
  refine ⟨_, _, _, [] ++ [], [] ++ ([] ++ ([] ++ (p3 ++ (p4 ++ (p5 ++ []))))), [], hW', ?_, hargs _ bel, rfl, bel.frame _, fun h => by cases h⟩
  exact trodAll_mk1 (shut_bool Tryd.underlying4 _)

theorem driverPlays_holds : Rows.DriverPlaysSaid :=
  OpenClaim.holds_of_wide 4 Tryd.f4 rfl rfl rfl rfl rfl rfl rfl ⟨rfl, rfl, rfl, rfl, rfl⟩ rfl rfl rfl rfl rfl (by kernel_rfl) Tryd.func4 (by kernel_rfl)
    (of_decide_eq_true (by kernel_rfl)) (by unfold Func.isWrapper; first | (rw [if_pos (by decide +kernel)]; kernel_rfl) | (rw [if_neg (by decide +kernel)]; exact ⟨rfl, rfl⟩))
    (fun os started H enc _ => lifted os started H enc)

theorem driverPlays_card : Rows.DriverPlaysCardSaid :=
  Claim7.holds_tied_plain_at .later [] [.data, .data, .data, .sentinel, .sentinel] true (true, "bf705e6cd6af65afab013f836485e5fc88afd2d10648d166a234b3c753239915") true
    driverPlays_holds (fun _ h => by cases h) (by kernel_rfl) (fun _ h => by cases h) driverPlays_row_tie rfl ⟨rfl, rfl⟩ (by kernel_rfl) rfl
    (fun f fn hf hfn => by
      obtain rfl : f = 4 := Option.some.inj ((show Tryd.prog.funcNamed "kissinggate/kissinggatelaw21.DriverPlays" = some 4 by kernel_rfl).symm.trans hf) |>.symm
      obtain rfl : fn = Tryd.f4 := (Option.some.inj (Tryd.func4.symm.trans hfn)).symm
      exact ⟨by kernel_rfl, fun j t ht => by
        rw [show Tryd.f4.params = #[3, 3, 3, 30, 22, 44] from Tryd.params4] at ht
        have hm : t ∈ [3, 3, 3, 30, 22, 44] := by simpa using Array.mem_of_getElem? ht
        have hall : ([3, 3, 3, 30, 22, 44].all fun u => !Tryd.prog.wantsStandIn u) = true := by kernel_rfl
        exact (show Tryd.prog.wantsStandIn t = false by simpa using List.all_eq_true.1 hall t hm)⟩)
    (by kernel_rfl)
#print axioms driverPlays_card
end Go.Proofs.YtheecdjpbfkpdaaDoor
