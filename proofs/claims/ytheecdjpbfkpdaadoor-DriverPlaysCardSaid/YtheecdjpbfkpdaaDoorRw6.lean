/-
  Walks of the document's driver: op, rest, end, State.
-/
import Derived.Test.YtheecdjpbfkpdaaDoorRw5
import Derived.Deep.RegionWith
import Derived.Deep.DeepCutAuto
namespace Go.Proofs.YtheecdjpbfkpdaaDoor
open Go.RowKit
set_option maxRecDepth 100000
set_option linter.unusedSimpArgs false
set_option linter.unusedVariables false

/-- What a method of the document's driver leaves. -/
def RPost (W w : World) (g : Nat) (M : RL) (t' : RS) (w' : World) : Prop := ∃ M', Ref W w' g M' t' ∧ Upd (rfoot g M) w w' ∧ ∀ k, rfoot g M' k → rfoot g M k ∨ w.heap.size ≤ k
section
variable {W w w1 w2 w' : World} {g : Nat} {M M1 : RL} {t t1 t' : RS}
theorem RPost.same (h : Ref W w' g M t') (u : Upd (rfoot g M) w w') : RPost W w g M t' w' := ⟨M, h, u, fun _ hk => .inl hk⟩
theorem RPost.nil (h : Ref W w' g { M with rV := .slice none 0 0 } t') (u : Upd (rfoot g M) w w') : RPost W w g M t' w' := ⟨_, h, u, fun k hk => by
  rcases hk with x | x
  · exact .inl (.inl x)
  · simp [Value.ownBlock] at x⟩
theorem RPost.from_ (hU : Upd (rfoot g M) w w1) (hF : ∀ k, rfoot g M1 k → rfoot g M k ∨ w.heap.size ≤ k) (k : RPost W w1 g M1 t' w') : RPost W w g M t' w' := by
  obtain ⟨M2, h1, h2, h3⟩ := k
  refine ⟨M2, h1, hU.then_ h2 hF, fun k hk => ?_⟩
  rcases h3 k hk with x | x
  · exact hF k x
  · exact .inr (Nat.le_trans hU.size x)
theorem RPost.then_ (h : RPost W w g M t1 w1) (k : ∀ M1, Ref W w1 g M1 t1 → RPost W w1 g M1 t' w') : RPost W w g M t' w' := by
  obtain ⟨M1, h1, h2, h3⟩ := h
  exact RPost.from_ h2 h3 (k M1 h1)
theorem RPost.from_same (hU : Upd (rfoot g M) w w1) (k : RPost W w1 g M t' w') : RPost W w g M t' w' := RPost.from_ hU (fun _ h => .inl h) k
theorem Upd.at_r {w0 : World} (h : Upd (rfoot g M) w0 w) {i : Nat} {u : Value} : Upd (rfoot g M) w0 (w.setCell ⟨g, i, none⟩ u) := h.setCell (.inl (.inl rfl)) u
theorem Ref.set (h : Ref W w g M t) {i : Nat} {u : Value} {t' : RS} (hc : (refCells M t).setIfInBounds i u = refCells M t') (hs : t'.splits = t.splits) (hp : t'.plan = t.plan) (hr : t'.results = t.results) : Ref W (w.setCell ⟨g, i, none⟩ u) g M t' := by
  refine ⟨h.gB, h.bel.setCell h.gB u, ?_, by rw [hs]; exact h.scl, by rw [hp]; exact h.pcl, by rw [hs]; exact h.spl, by rw [hp]; exact h.pln, by rw [hr]; exact own_setCell h.res (p := ⟨g, i, none⟩) h.blk (by decide) u⟩
  have := h.blk.set_ i u
  rw [hc] at this
  exact this
theorem Ref.set5 (h : Ref W w g M t) (n : Int) : Ref W (w.setCell ⟨g, 5, none⟩ (.int .i64 n)) g M { t with attempt := n } := h.set rfl rfl rfl rfl
theorem Ref.set6 (h : Ref W w g M t) (n : Int) : Ref W (w.setCell ⟨g, 6, none⟩ (.int .i64 n)) g M { t with asks := n } := h.set rfl rfl rfl rfl
theorem Ref.set7 (h : Ref W w g M t) (n : Int) : Ref W (w.setCell ⟨g, 7, none⟩ (.int .i64 n)) g M { t with i := n } := h.set rfl rfl rfl rfl
theorem Ref.set8 (h : Ref W w g M t) (v : ByteArray) : Ref W (w.setCell ⟨g, 8, none⟩ (.string v)) g M { t with write := ⟨v, t.write.h⟩ } := h.set rfl rfl rfl rfl
theorem Ref.set9 (h : Ref W w g M t) (b : Bool) : Ref W (w.setCell ⟨g, 9, none⟩ (.bool b)) g M { t with write := ⟨t.write.v, b⟩ } := h.set rfl rfl rfl rfl
theorem Ref.set11 (h : Ref W w g M t) (n : Int) : Ref W (w.setCell ⟨g, 11, none⟩ (.int .i64 n)) g M { t with fin := n } := h.set rfl rfl rfl rfl
theorem Ref.set12 (h : Ref W w g M t) (n : Int) : Ref W (w.setCell ⟨g, 12, none⟩ (.int .i64 n)) g M { t with told := n } := h.set rfl rfl rfl rfl
theorem Ref.set13 (h : Ref W w g M t) (b : Bool) : Ref W (w.setCell ⟨g, 13, none⟩ (.bool b)) g M { t with quit := b } := h.set rfl rfl rfl rfl
theorem Ref.set10 (h : Ref W w g M t) : Ref W (w.setCell ⟨g, 10, none⟩ (.slice none 0 0)) g { M with rV := .slice none 0 0 } { t with results := [] } :=
  ⟨h.gB, h.bel.setCell h.gB _, h.blk.set_ 10 _, h.scl, h.pcl, h.spl, h.pln, World.ownsRow_nil _ _ _ _⟩

set_option maxHeartbeats 1000000 in
theorem refOp_any (hR : Ref W w g M t) (k : Int) (h0 : 0 ≤ k) :
    Calls Tryd.prog 37 #[.pointer (some ⟨g, 0, none⟩), .int .i64 k] w fun e w' => e = .returned (.tuple #[]) ∧ RPost W w g M (t.begins k) w' := by
  have c4 := hR.c4
  have c6 := hR.c6
  have c7 := hR.c7
  have c13 := hR.c13
  have f6 := hR.fz 6
  have f7 := hR.fz 7
  have f12 := hR.fz 12
  have f13 := hR.fz 13
  have hlt := hR.lt
  by_cases h1 : (t.plan.length : Int) ≤ k
  · have he : t.begins k = { t with asks := 5 } := by unfold RS.begins; rw [if_pos h1]
    have HE := Lib.hid he
    have HR := Lib.hid hR
    clear he hR
    go_enter Tryd.func37, Tryd.ntmps37
    go_wp2_with fail
    refine bodyPost_ret (results_none rfl _ _ _) rfl ?_
    rw [HE.out]
    exact ⟨rfl, RPost.same (HR.out.set6 5) (Upd.refl _ _).at_r⟩
  · obtain ⟨n, rfl⟩ := Int.eq_ofNat_of_zero_le h0
    have hn : n < t.plan.length := by omega
    obtain ⟨ad, hA, q0, q1, q2, q3⟩ := hR.plnRow.op n _ (opD_at hn)
    rw [hA] at c4
    have hbl := World.block_lt_of_cell? _ _ q0
    have he : t.begins n = if (opD t.plan n).kind = 6 then { t with asks := 6, quit := true } else { t with i := n, asks := 2 } := by
      unfold RS.begins
      rw [if_neg h1, Int.toNat_natCast]
    have HE := Lib.hid he
    have HR := Lib.hid hR
    clear he hR hA q1 q2 q3 h1
    by_cases hk : (opD t.plan n).kind = 6
    · have hE2 := HE.out
      rw [if_pos hk] at hE2
      have HE2 := Lib.hid hE2
      rw [hk] at q0
      clear hE2 HE hk
      go_enter Tryd.func37, Tryd.ntmps37
      go_wp2_with fail
      refine bodyPost_ret (results_none rfl _ _ _) rfl ?_
      rw [HE2.out]
      exact ⟨rfl, RPost.same ((HR.out.set6 6).set13 true) ((Upd.refl _ _).at_r).at_r⟩
    · have hE2 := HE.out
      rw [if_neg hk] at hE2
      have HE2 := Lib.hid hE2
      have hkb : ((opD t.plan n).kind == 6) = false := beq_eq_false_iff_ne.2 hk
      clear hE2 HE hk
      go_enter Tryd.func37, Tryd.ntmps37
      go_wp2_with fail
      go_end0
      rw [HE2.out]
      exact ⟨rfl, RPost.same ((HR.out.set7 n).set6 2) ((Upd.refl _ _).at_r).at_r⟩

set_option maxHeartbeats 2000000 in
theorem refRest_any (hR : Ref W w g M t) (h16 : t.plan.length ≤ 16) (h7 : t.splits.length ≤ 7) (ha0 : 0 ≤ t.attempt) (ha1 : t.attempt ≤ 1048576) :
    Calls Tryd.prog 39 #[.pointer (some ⟨g, 0, none⟩)] w fun e w' => e = .returned (.tuple #[]) ∧ RPost W w g M t.rest w' := by
  have c12 := hR.c12
  have hlt := hR.lt
  have HR := Lib.hid hR
  clear hR
  go_enter Tryd.func39, Tryd.ntmps39
  go_upto_region 0 with (fail)
  go_cut [9] (fun s9 X => s9 = .bool (decide (t.told < (t.touched.length : Int))) ∧ Ref W X g M t ∧ Below w.heap.size w X)
  case first =>
    go_region_with
      (go_at_call 34; refine (refTouched_any (by exact HR.out.drewN 1) h16 h7).mono ?_; rintro e w1 ⟨⟨v, rfl, ho⟩, hb⟩; obtain ⟨A', c', hv, _, _, _⟩ := own_slice_form ho; subst hv; have hR1 := (HR.out.drewN 1).below hb; have c12' := hR1.c12; have HR1 := Lib.hid hR1; have HB1 : Hid (Below w.heap.size w w1) := Lib.hid (below_drewN (Below.refl _ _) 1 |>.trans hb); clear hR1 ho hb)
    all_goals
      go_wp2_with fail
      go_meet
      exact ⟨rfl, HR1.out, HB1.out⟩
  case rest =>
    obtain ⟨rfl, hRX, hbX⟩ := hcut
    obtain ⟨X, rfl⟩ : ∃ X : World, X = wc := ⟨_, rfl⟩
    have HU : Hid (Upd (rfoot g M) w X) := Lib.hid (Upd.of_below hbX)
    clear hbX c12 HR hlt
    have c2 := hRX.c2
    have c5 := hRX.c5
    have c6 := hRX.c6
    have c7 := hRX.c7
    have c10 := hRX.c10
    have c11 := hRX.c11
    have c13 := hRX.c13
    have f5 := hRX.fz 5
    have f6 := hRX.fz 6
    have f7 := hRX.fz 7
    have f10 := hRX.fz 10
    have f11 := hRX.fz 11
    have hlt := hRX.lt
    have HR := Lib.hid hRX
    clear hRX
    by_cases h1 : t.told < (t.touched.length : Int)
    · have he : t.rest = t := by unfold RS.rest; rw [if_pos h1]
      rw [decide_eq_true h1]
      have HE := Lib.hid he
      clear he h1
      go_wp2_with fail
      refine bodyPost_ret (results_none rfl _ _ _) rfl ?_
      rw [HE.out]
      exact ⟨rfl, RPost.same HR.out HU.out⟩
    rw [decide_eq_false h1]
    by_cases h2 : t.fin = 2
    · have he : t.rest = { t with asks := 0 } := by unfold RS.rest; rw [if_neg h1, if_pos h2]
      have HE := Lib.hid he
      rw [h2] at c11
      clear he h1 h2
      go_wp2_with fail
      refine bodyPost_ret (results_none rfl _ _ _) rfl ?_
      rw [HE.out]
      exact ⟨rfl, RPost.same (HR.out.set6 0) HU.out.at_r⟩
    have h2b : (t.fin == 2) = false := beq_eq_false_iff_ne.2 h2
    by_cases h3 : t.quit = true ∨ t.tries ≤ t.attempt + 1
    · have he : t.rest = { t with results := [], asks := 0 } := by unfold RS.rest; rw [if_neg h1, if_neg h2, if_pos h3]
      have HE := Lib.hid he
      have hwr : IntKind.i64.wrap (t.attempt + 1) = t.attempt + 1 := IntWalk.i64_in _ (by omega)
      clear he h1 h2
      by_cases hq : t.quit = true
      · rw [hq] at c13
        clear h3 hwr
        go_wp2_with fail
        go_quiet (fail)
        go_wp2_with fail
        refine bodyPost_ret (results_none rfl _ _ _) rfl ?_
        rw [HE.out]
        exact ⟨rfl, RPost.nil ((((HR.out.set10).drewN _).set6 0)) (((HU.out.at_r).drewN _).at_r)⟩
      · have hq' : t.quit = false := by simpa using hq
        have h4 : decide (t.tries ≤ t.attempt + 1) = true := by rcases h3 with x | x; exact absurd x hq; exact decide_eq_true x
        rw [hq'] at c13
        clear h3 hq
        go_wp2_with fail
        go_quiet (fail)
        go_wp2_with fail
        refine bodyPost_ret (results_none rfl _ _ _) rfl ?_
        rw [HE.out]
        exact ⟨rfl, RPost.nil ((((HR.out.set10).drewN _).set6 0)) (((HU.out.at_r).drewN _).at_r)⟩
    · have he : t.rest = { t with results := [], attempt := t.attempt + 1, asks := 1, i := -1, fin := 0 } := by unfold RS.rest; rw [if_neg h1, if_neg h2, if_neg h3]
      have HE := Lib.hid he
      have hwr : IntKind.i64.wrap (t.attempt + 1) = t.attempt + 1 := IntWalk.i64_in _ (by omega)
      have hq' : t.quit = false := by
        cases hq : t.quit with
        | true => exact absurd (.inl hq) h3
        | false => rfl
      have h4 : decide (t.tries ≤ t.attempt + 1) = false := decide_eq_false (fun x => h3 (.inr x))
      rw [hq'] at c13
      have HWR := Lib.hid hwr
      clear he h1 h2 h3
      go_wp2_with fail
      go_quiet (fail)
      clear hwr
      go_wp2_with fail
      go_end0
      rw [HE.out]
      exact ⟨rfl, RPost.nil ((((((HR.out.set10).drewN _).set5 _).set6 1).set7 (-1)).set11 0) ((((((HU.out.at_r).drewN _).at_r).at_r).at_r).at_r)⟩

set_option maxHeartbeats 1000000 in
theorem refEnd_any (hR : Ref W w g M t) (st : Int) (h16 : t.plan.length ≤ 16) (h7 : t.splits.length ≤ 7) (ha0 : 0 ≤ t.attempt) (ha1 : t.attempt ≤ 1048576) :
    Calls Tryd.prog 36 #[.pointer (some ⟨g, 0, none⟩), .int .i64 st] w fun e w' => e = .returned (.tuple #[]) ∧ RPost W w g M (t.ends st) w' := by
  have c6 := hR.c6
  have c11 := hR.c11
  have c12 := hR.c12
  have f6 := hR.fz 6
  have f11 := hR.fz 11
  have f12 := hR.fz 12
  have hlt := hR.lt
  have HR := Lib.hid hR
  clear hR
  go_enter Tryd.func36, Tryd.ntmps36
  go_wp2_with fail
  refine (refRest_any (((HR.out.set11 st).set12 0).set6 7) h16 h7 ha0 ha1).mono ?_
  rintro e w1 ⟨rfl, hP⟩
  have HP := Lib.hid hP
  clear hP
  go_wp2_with fail
  go_end0
  exact ⟨rfl, RPost.from_same ((((Upd.refl _ _).at_r).at_r).at_r) HP.out⟩

set_option maxHeartbeats 1000000 in
theorem refState_any (hR : Ref W w g M t) :
    Calls Tryd.prog 17 #[.pointer (some ⟨g, 0, none⟩)] w fun e w' => e = .returned (.int .i64 t.state) ∧ w = w' := by
  have c6 := hR.c6
  have c11 := hR.c11
  clear hR
  by_cases h : 0 < t.asks
  · have he : t.state = 1 := by unfold RS.state; rw [if_pos h]
    have HE := Lib.hid he
    clear he
    go_enter Tryd.func17, Tryd.ntmps17
    go_wp2_with fail
    go_ret
    rw [HE.out]
    exact ⟨rfl, rfl⟩
  · have he : t.state = t.fin := by unfold RS.state; rw [if_neg h]
    have HE := Lib.hid he
    clear he
    go_enter Tryd.func17, Tryd.ntmps17
    go_wp2_with fail
    go_ret
    rw [HE.out]
    exact ⟨rfl, rfl⟩
end
end Go.Proofs.YtheecdjpbfkpdaaDoor
