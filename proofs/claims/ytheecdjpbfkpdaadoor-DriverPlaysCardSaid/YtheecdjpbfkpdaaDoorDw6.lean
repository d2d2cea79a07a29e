/-
  Walks: the driver's begins.
-/
import Derived.Test.YtheecdjpbfkpdaaDoorDw5
import Derived.Test.YtheecdjpbfkpdaaDoorIns
namespace Go.Proofs.YtheecdjpbfkpdaaDoor
open Go.RowKit
set_option maxRecDepth 100000
set_option linter.unusedSimpArgs false
set_option linter.unusedVariables false

section
variable {w : World} {B g : Nat} {L : DL} {s : DS}
theorem cell_far {W : World} {p a : Addr} (h : a.block ≠ p.block) (u : Value) : (W.setCell p u).cell? a = W.cell? a := World.cell?_of_block (Below.heap_setCell _ _ _ _ h)
theorem Drv.opAt (hD : Drv w B g L s) (i : Nat) (hi : i < s.plan.length) :
    ∃ bp, L.pA = some ⟨bp, 0, none⟩ ∧ bp ≠ g ∧ bp < w.heap.size ∧ w.cell? ⟨bp, i * 4, none⟩ = some (.int .i64 (s.plan.getD i OpS.zero).kind) ∧ w.cell? ⟨bp, i * 4 + 1, none⟩ = some (.string (s.plan.getD i OpS.zero).key) ∧
      w.cell? ⟨bp, i * 4 + 2, none⟩ = some (.string (s.plan.getD i OpS.zero).value) ∧ w.cell? ⟨bp, i * 4 + 3, none⟩ = some (.int .i64 (s.plan.getD i OpS.zero).n) := by
  obtain ⟨A, c, hv, _, _, hg⟩ := own_slice_form hD.pln
  obtain ⟨bp, rfl⟩ := hg (by omega)
  injection hv with hA _ hc
  have ho := hD.pln
  rw [hA] at ho
  obtain ⟨_, hlt, cs, hb⟩ := own_block ho bp rfl
  have hx : s.plan[i]? = some (s.plan.getD i OpS.zero) := by rw [List.getD_eq_getElem?_getD, List.getElem?_eq_getElem hi]; rfl
  have hgt := fun j hj => flat_get opCells 4 (fun _ => rfl) s.plan i j _ hx hj
  refine ⟨bp, hA, Blk.ne_ hb hD.blk (by decide), hlt, own_cell ho _ _ ?_, own_cell ho _ _ (hgt 1 (by omega)), own_cell ho _ _ (hgt 2 (by omega)), own_cell ho _ _ (hgt 3 (by omega))⟩
  have := hgt 0 (by omega)
  rw [Nat.add_zero] at this
  exact this

theorem Drv.setTouched {W W' : World} {v' : Value} {l : List Int} (hD : Drv W B g L s) (hg : W.grownBy W' L.tV.ownBlock) (ho : W'.ownsRow B 3 1 v' l.length (intRow l)) (hp : s.phase ≠ 7) :
    Drv (W'.setCell ⟨g, 13, none⟩ v') B g { L with tV := v' } { s with touched := l } := by
  have hk : ∀ k t cs, Blk W k t cs → t ≠ 3 → Blk W' k t cs := fun k t cs hb ht => hb.keep (hg.block k hb.lt (fun e => own_ne_blk hD.tou hb (fun e' => ht e'.symm) e.symm))
  have hr : ∀ e size v n xs, W.ownsRow B e size v n xs → e ≠ 3 → W'.ownsRow B e size v n xs := fun e size v n xs h he => own_keep h (fun k hb => by
    obtain ⟨_, hlt, cs, hc⟩ := own_block h k hb
    exact hg.block k hlt (fun e' => own_ne_blk hD.tou hc (fun e'' => he e''.symm) e'.symm))
  have hb := hk _ _ _ hD.blk (by decide)
  exact ⟨hD.gB, hb.set_ 13 _, (hk _ _ _ hD.map (by decide)).far (hD.map.ne_ hD.blk (by decide)) _, own_setCell (hr _ _ _ _ _ hD.spl (by decide)) (p := ⟨g, 13, none⟩) hb (by decide) _, own_setCell (hr _ _ _ _ _ hD.pln (by decide)) (p := ⟨g, 13, none⟩) hb (by decide) _,
    own_setCell (hr _ _ _ _ _ hD.res (by decide)) (p := ⟨g, 13, none⟩) hb (by decide) _, own_setCell ho (p := ⟨g, 13, none⟩) hb (by decide) _, fun e => absurd e hp⟩

theorem bsearch_any {v : Value} {l : List Int} (h : w.ownsRow B 3 1 v l.length (intRow l)) (x : Int) (hs : l.Pairwise (· < ·)) (hl : l.length ≤ 4096) :
    Calls Tryd.prog 54 #[v, .int .i64 x] w fun e w' => e = .returned (.tuple #[.int .i64 ((l.countP (· < x) : Nat) : Int), .bool (l.contains x)]) ∧ ∃ q, w' = w.drewN q := by
  obtain ⟨A, c, rfl, hn, _, hg⟩ := own_slice_form h
  by_cases h0 : l = []
  · subst h0
    refine (Any.slices_BinarySearch_int_empty Tryd.laysBsInt A c x w).mono ?_
    rintro e w' ⟨rfl, rfl⟩
    exact ⟨rfl, 0, rfl⟩
  · obtain ⟨b, rfl⟩ := hg (List.length_pos_iff.2 h0)
    refine (Any.slices_BinarySearch_int Tryd.laysBsInt b 0 l.length c l x w (Nat.le_refl _) (by omega) (fun j hj => ?_) ?_).mono ?_
    · rw [Nat.zero_add]
      refine own_cell h j _ ?_
      simp [intRow, List.getD_eq_getElem?_getD, List.getElem?_eq_getElem hj]
    · rw [List.take_length]
      exact hs.imp (fun h => Int.le_of_lt h)
    · rintro e w' ⟨rfl, hq⟩
      rw [List.take_length]
      exact ⟨rfl, hq⟩

set_option maxHeartbeats 1000000 in
theorem begins_decides (at' : Int) (hD : Drv w B g L s) (h1 : (s.plan.length : Int) ≤ at') :
    Calls Tryd.prog 46 #[.pointer (some ⟨g, 0, none⟩), .int .i64 at'] w fun e w' => e = .returned (.tuple #[]) ∧ DPost w B g L (s.begins at') w' := by
  have e1 : s.begins at' = { s with at_ := at', phase := 5 } := by unfold DS.begins; rw [if_pos h1]
  rw [e1]
  have c4 := hD.c4
  have c6 := hD.c6
  have c7 := hD.c7
  have f6 := hD.fz 6
  have f7 := hD.fz 7
  have HD := Lib.hid hD
  clear e1 hD
  go_enter Tryd.func46, Tryd.ntmps46
  go_wp2_with fail
  go_end0
  exact ⟨rfl, DPost.same ((HD.out.set7 at').set6 5 (fun e => absurd e (by decide))) ((Upd.refl _ _).at_g).at_g (.inr rfl) (.inr rfl)⟩

set_option maxHeartbeats 1000000 in
theorem begins_quits (at' : Int) (hD : Drv w B g L s) (h0 : 0 ≤ at') (h1 : at' < s.plan.length) (hk : (s.plan.getD at'.toNat OpS.zero).kind = 6) :
    Calls Tryd.prog 46 #[.pointer (some ⟨g, 0, none⟩), .int .i64 at'] w fun e w' => e = .returned (.tuple #[]) ∧ DPost w B g L (s.begins at') w' := by
  have e1 : s.begins at' = { s with at_ := at', phase := 6, quits := true } := by unfold DS.begins; rw [if_neg (by omega), if_pos hk]
  rw [e1]
  obtain ⟨bp, hA, n1, hbp, q0, q1, q2, q3⟩ := hD.opAt at'.toNat (by omega)
  have c4 := hD.c4
  rw [hA] at c4
  rw [hk] at q0
  have n2 : ¬ g = bp := fun e => n1 e.symm
  have c6 := hD.c6
  have c7 := hD.c7
  have c16 := hD.c16
  have f6 := hD.fz 6
  have f7 := hD.fz 7
  have f16 := hD.fz 16
  have HD := Lib.hid hD
  clear e1 hD hA hk
  go_enter Tryd.func46, Tryd.ntmps46
  go_wp2_with fail
  go_end0
  exact ⟨rfl, DPost.same (((HD.out.set7 at').set6 6 (fun e => absurd e (by decide))).set16 true) (((Upd.refl _ _).at_g).at_g).at_g (.inr rfl) (.inr rfl)⟩

set_option maxHeartbeats 2000000 in
theorem begins_locks (at' : Int) (hD : Drv w B g L s) (hR : Rise s.splits) (h7 : s.splits.length ≤ 7) (h0 : 0 ≤ at') (h1 : at' < s.plan.length) (hk : (s.plan.getD at'.toNat OpS.zero).kind ≠ 6) (hs : s.touched.Pairwise (· < ·)) (hl : s.touched.length ≤ 4095) :
    Calls Tryd.prog 46 #[.pointer (some ⟨g, 0, none⟩), .int .i64 at'] w fun e w' => e = .returned (.tuple #[]) ∧ DPost w B g L (s.begins at') w' := by
  have e1 : s.begins at' = { s with at_ := at', phase := 1, touched := insS s.touched (shardOf s.splits (s.plan.getD at'.toNat OpS.zero).key) } := by unfold DS.begins; rw [if_neg (by omega), if_neg hk]
  rw [e1]
  obtain ⟨bp, hA, n1, hbp, q0, q1, q2, q3⟩ := hD.opAt at'.toNat (by omega)
  have c3 := hD.c3
  have c4 := hD.c4
  rw [hA] at c4
  have k0 : ((s.plan.getD at'.toNat OpS.zero).kind == 6) = false := by simpa using hk
  have n2 : ¬ g = bp := fun e => n1 e.symm
  have c6 := hD.c6
  have c7 := hD.c7
  have f6 := hD.fz 6
  have f7 := hD.fz 7
  have HD := Lib.hid hD
  have HR := Lib.hid hR
  have HS := Lib.hid hs
  generalize hop : s.plan.getD at'.toNat OpS.zero = op at *
  clear e1 hD hk hR hs hop
  go_enter Tryd.func46, Tryd.ntmps46
  go_wp2_with fail
  have hDW := (HD.out.set7 at').set6 1 (fun e => absurd e (by decide))
  have HU : Hid (Upd (foot g L) w ((w.setCell ⟨g, 7, none⟩ (.int .i64 at')).setCell ⟨g, 6, none⟩ (.int .i64 1))) := ((Upd.refl _ _).at_g).at_g
  generalize hW : (w.setCell ⟨g, 7, none⟩ (.int .i64 at')).setCell ⟨g, 6, none⟩ (.int .i64 1) = W at hDW HU ⊢
  have qk : W.cell? ⟨bp, at'.toNat * 4 + 1, none⟩ = some (.string op.key) := by
    rw [← hW]
    exact (cell_far (p := ⟨g, 6, none⟩) n1 _).trans ((cell_far (p := ⟨g, 7, none⟩) n1 _).trans q1)
  have d3 := hDW.c3
  have d4 : W.cell? ⟨g, 4, none⟩ = some (.slice (some ⟨bp, 0, none⟩) s.plan.length L.pc) := by
    have := hDW.c4
    rw [hA] at this
    exact this
  have HDW := Lib.hid hDW
  clear hW hDW q0 q1 q2 q3 c3 c4 c6 c7 f6 f7 HD hA
  go_region_held3 (fun X => X.cell? ⟨g, 3, none⟩ = some (.pointer (some ⟨L.gm, 0, none⟩)) ∧ X.cell? ⟨g, 4, none⟩ = some (.slice (some ⟨bp, 0, none⟩) s.plan.length L.pc) ∧ X.cell? ⟨bp, at'.toNat * 4 + 1, none⟩ = some (.string op.key)) (go_keep)
    (first | (go_at_call 44; refine (mapOf_any L.gm L.sc s.splits L.sA op.key _ h7 HR.out (by exact HDW.out.drew.m0) (by exact Row.of_own HDW.out.drew.spl)).mono ?_; rintro e w4 ⟨rfl, hb4⟩; have hD4 := HDW.out.drew.below hb4; have e3 := hD4.c3; have e4 : w4.cell? ⟨g, 4, none⟩ = some (.slice (some ⟨bp, 0, none⟩) s.plan.length L.pc) := (hb4.cell (p := ⟨g, 4, none⟩) (by exact HDW.out.lt)).trans d4; have ek : w4.cell? ⟨bp, at'.toNat * 4 + 1, none⟩ = some (.string op.key) := (hb4.cell (p := ⟨bp, at'.toNat * 4 + 1, none⟩) (by exact World.block_lt_of_cell? _ _ qk)).trans qk; have e13 := hD4.c13; have g13 := hD4.fz 13; have HD4 := Lib.hid hD4; have HB4 := Lib.hid hb4; clear hb4 hD4))
  go_wp2_with fail
  refine (bsearch_any (l := s.touched) (by exact HD4.out.tou) _ HS.out (by exact Nat.le_trans hl (by decide))).mono ?_
  rintro e w5 ⟨rfl, nq, rfl⟩
  cases hc : s.touched.contains (shardOf s.splits op.key : Int) with
  | true =>
    have e2 : insS s.touched (shardOf s.splits op.key) = s.touched := by unfold insS; rw [if_pos (by simpa using hc)]
    have HE := Lib.hid e2
    clear e2 hc
    go_wp2_with fail
    go_end0
    rw [HE.out]
    exact ⟨rfl, DPost.same (HD4.out.drewN nq) (((HU.out.drew).below HB4.out).drewN nq) (.inr rfl) (.inr rfl)⟩
  | false =>
    have e2 : insS s.touched (shardOf s.splits op.key) = s.touched.take (s.touched.countP (· < (shardOf s.splits op.key : Int))) ++ (shardOf s.splits op.key : Int) :: s.touched.drop (s.touched.countP (· < (shardOf s.splits op.key : Int))) := by unfold insS; rw [if_neg (by simpa using hc)]
    have hi : s.touched.countP (· < (shardOf s.splits op.key : Int)) ≤ s.touched.length := List.countP_le_length
    have HE := Lib.hid e2
    clear e2 hc
    generalize hgi : s.touched.countP (· < (shardOf s.splits op.key : Int)) = i at *
    clear hgi
    go_wp2_with fail
    have hD5 := (HD4.out.drewN nq).alloc (Obj.cells #[.int .i64 (shardOf s.splits op.key)] 3)
    have hB4 : B ≤ w4.heap.size := Nat.le_trans HD4.out.gB (Nat.le_of_lt HD4.out.lt)
    have hne : L.tV.ownBlock ≠ some w4.heap.size := fun e => by
      obtain ⟨_, h, _⟩ := own_block HD4.out.tou _ e
      omega
    refine (insert_any B L.tV s.touched i (shardOf s.splits op.key) w4.heap.size 1 _ (by simp <;> omega) (by exact hD5.tou) hi (by omega) (by exact Blk.new (w4.drewN nq) _ _) hne).mono ?_
    rintro e w6 ⟨v', rfl, ho, hg, hat⟩
    obtain ⟨A', c', hv', _, _, _⟩ := own_slice_form ho
    subst hv'
    have hb6 : Blk w6 g _ _ := hD5.blk.keep (hg.block g hD5.lt (fun e => own_ne_blk hD5.tou hD5.blk (by decide) e.symm))
    have e13' : w6.cell? ⟨g, 13, none⟩ = some L.tV := hb6.at_ 13 _ rfl
    have g13' := hb6.frozen 13
    have hF := hD5.setTouched hg ho (by show (1 : Int) ≠ 7; decide)
    have hU6 : Upd (foot g L) w w6 := ((((HU.out.drew).below HB4.out).drewN nq).alloc _).grown hg (fun k hk => .inl (.inr (.inr hk)))
    have hP : DPost w B g L { s with at_ := at', phase := 1, touched := s.touched.take i ++ (shardOf s.splits op.key : Int) :: s.touched.drop i } (w6.setCell ⟨g, 13, none⟩ (.slice A' (s.touched.take i ++ (shardOf s.splits op.key : Int) :: s.touched.drop i).length c')) := by
      refine ⟨_, hF, hU6.at_g, fun k hk => ?_⟩
      rcases hk with x | x | x
      · exact .inl (.inl x)
      · exact .inl (.inr (.inl x))
      · rcases hat with y | y
        · have x' : (Value.slice A' (s.touched.take i ++ (shardOf s.splits op.key : Int) :: s.touched.drop i).length c').ownBlock = some k := x
          rw [y] at x'
          exact .inl (.inr (.inr x'))
        · have x' : (Value.slice A' (s.touched.take i ++ (shardOf s.splits op.key : Int) :: s.touched.drop i).length c').ownBlock = some k := x
          rw [y] at x'
          injection x' with x'
          right
          have h1 := HB4.out.size
          have h2 := HU.out.size
          have h3 : W.drew.heap.size = W.heap.size := rfl
          have h4 : ((w4.drewN nq).alloc (Obj.cells #[.int .i64 (shardOf s.splits op.key)] 3)).heap.size = w4.heap.size + 1 := by simp
          omega
    have HP := Lib.hid hP
    clear hF hP hU6 hat ho hg hb6 hD5 hne
    generalize (s.touched.take i ++ (shardOf s.splits op.key : Int) :: s.touched.drop i).length = n' at *
    go_wp2_with fail
    go_end0
    rw [HE.out]
    exact ⟨rfl, HP.out⟩
end
end Go.Proofs.YtheecdjpbfkpdaaDoor
