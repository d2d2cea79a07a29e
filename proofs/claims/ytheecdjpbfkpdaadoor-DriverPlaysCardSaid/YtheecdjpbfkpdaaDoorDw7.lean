/-
  Walks: the driver's got.
-/
import Derived.Test.YtheecdjpbfkpdaaDoorDw6
import Derived.Test.YtheecdjpbfkpdaaDoorStp
import Derived.Deep.DeepCutAuto
import Derived.Deep.RegionLaw
import Derived.Laws.AppendOwn
namespace Go.Proofs.YtheecdjpbfkpdaaDoor
open Go.RowKit
set_option maxRecDepth 100000
set_option linter.unusedSimpArgs false
set_option linter.unusedVariables false

def DS.readS (s : DS) (r : RepS) : DS := { s with write := (stepS s.op ⟨r.v, r.h⟩ s.last).1, last := (stepS s.op ⟨r.v, r.h⟩ s.last).2, results := s.results ++ [(stepS s.op ⟨r.v, r.h⟩ s.last).2] }
def DS.got (s : DS) (r : RepS) : DS := if writesB s.op.kind = true then { s.readS r with phase := 4 } else (s.readS r).begins (s.at_ + 1)

theorem info_res : (Tryd.prog.info? 52).map (fun i => (i.zero, i.size, i.bytes)) = some (some (.agg #[.string ⟨#[]⟩, .bool false]), 2, 24) := by kernel_rfl

section
variable {w : World} {B g : Nat} {L : DL} {s : DS}
structure GotCut (w : World) (B g : Nat) (L : DL) (s : DS) (X : World) : Prop where
  drv : Drv X B g L s
  b4 : Blk X (w.heap.size + 1) 60 #[.int .i64 s.op.kind, .string s.op.key, .string s.op.value, .int .i64 s.op.n]
  upd : Upd (foot g L) w X

theorem two_new (W : World) (x y : Value) (t : TypeId) : ∀ (j : Nat) u, [x, y][j]? = some u → ((W.alloc (.cells #[x, y] t)).drew).cell? ((⟨W.heap.size, 0, none⟩ : Addr).add j) = some u := by
  intro j u hj
  rw [show (⟨W.heap.size, 0, none⟩ : Addr).add j = ⟨W.heap.size, j, none⟩ from by unfold Addr.add; split <;> simp_all]
  refine ((Blk.new W t #[x, y]).drew.cell j).trans ?_
  simpa using hj
theorem two_one (a : ByteArray) (b : Bool) : ∀ u ∈ [Value.string a, Value.bool b], u.oneCell' = true := by
  intro u hu
  simp at hu
  rcases hu with rfl | rfl <;> rfl
def GotCut3 (w : World) (B g : Nat) (L : DL) (s : DS) (o : OpS) (X : World) : Prop :=
  ∃ L', Drv X B g L' s ∧ Blk X (w.heap.size + 1) 60 #[.int .i64 o.kind, .string o.key, .string o.value, .int .i64 o.n] ∧ Upd (foot g L) w X ∧ ∀ k, foot g L' k → foot g L k ∨ w.heap.size ≤ k

theorem begins_any (at' : Int) (hD : Drv w B g L s) (hR : Rise s.splits) (h7 : s.splits.length ≤ 7) (h0 : 0 ≤ at') (hp : s.phase ≠ 7) (hs : s.touched.Pairwise (· < ·)) (hl : s.touched.length ≤ 4095) :
    Calls Tryd.prog 46 #[.pointer (some ⟨g, 0, none⟩), .int .i64 at'] w fun e w' => e = .returned (.tuple #[]) ∧ DPost w B g L (s.begins at') w' := by
  by_cases h1 : (s.plan.length : Int) ≤ at'
  · exact begins_decides at' hD h1
  · by_cases hk : (s.plan.getD at'.toNat OpS.zero).kind = 6
    · exact begins_quits at' hD h0 (by omega) hk
    · exact begins_locks at' hD hR h7 h0 (by omega) hk hs hl
theorem Drv.grownRes {W W' : World} (hD : Drv W B g L s) (hg : W.grownBy W' L.rV.ownBlock) : Blk W' g 69 (drvCells L s) :=
  hD.blk.keep (hg.block g hD.lt (fun e => own_ne_blk hD.res hD.blk (by decide) e.symm))
theorem Drv.setResults {W W' : World} {v' : Value} {l : List ResS} (hD : Drv W B g L s) (hg : W.grownBy W' L.rV.ownBlock) (ho : W'.ownsRow B 52 2 v' l.length (resRow l)) :
    Drv (W'.setCell ⟨g, 12, none⟩ v') B g { L with rV := v' } { s with results := l } := by
  have hk : ∀ k t cs, Blk W k t cs → t ≠ 52 → Blk W' k t cs := fun k t cs hb ht => hb.keep (hg.block k hb.lt (fun e => own_ne_blk hD.res hb (fun e' => ht e'.symm) e.symm))
  have hr : ∀ e size v n xs, W.ownsRow B e size v n xs → e ≠ 52 → W'.ownsRow B e size v n xs := fun e size v n xs h he => own_keep h (fun k hb => by
    obtain ⟨_, hlt, cs, hc⟩ := own_block h k hb
    exact hg.block k hlt (fun e' => own_ne_blk hD.res hc (fun e'' => he e''.symm) e'.symm))
  have hb := hk _ _ _ hD.blk (by decide)
  exact ⟨hD.gB, hb.set_ 12 _, (hk _ _ _ hD.map (by decide)).far (hD.map.ne_ hD.blk (by decide)) _, own_setCell (hr _ _ _ _ _ hD.spl (by decide)) (p := ⟨g, 12, none⟩) hb (by decide) _, own_setCell (hr _ _ _ _ _ hD.pln (by decide)) (p := ⟨g, 12, none⟩) hb (by decide) _,
    own_setCell ho (p := ⟨g, 12, none⟩) hb (by decide) _, own_setCell (hr _ _ _ _ _ hD.tou (by decide)) (p := ⟨g, 12, none⟩) hb (by decide) _, fun e => hD.lef e⟩

set_option maxHeartbeats 4000000 in
theorem got_any (r : RepS) (hD : Drv w B g L s) (hR : Rise s.splits) (h7 : s.splits.length ≤ 7) (hp : s.phase ≠ 7) (h0 : 0 ≤ s.at_) (h1 : s.at_ < s.plan.length) (h16 : s.plan.length ≤ 16) (hs : s.touched.Pairwise (· < ·)) (hl : s.touched.length ≤ 4095)
    (hr16 : s.results.length ≤ 4096) (hrv : r.v.size ≤ 281474976710656) (hG : Glob w) (hB : 3 ≤ B) :
    Calls Tryd.prog 45 #[.pointer (some ⟨g, 0, none⟩), .agg #[.int .i64 r.code, .int .i64 r.state, .string r.v, .bool r.h]] w fun e w' => e = .returned (.tuple #[]) ∧ DPost w B g L (s.got r) w' := by
  obtain ⟨wr, ls, hst⟩ : ∃ wr ls, stepS s.op ⟨r.v, r.h⟩ s.last = (wr, ls) := ⟨_, _, rfl⟩
  have hstep : ∀ X, Glob X → 3 ≤ X.heap.size → Calls Tryd.prog 53 #[.agg #[.int .i64 s.op.kind, .string s.op.key, .string s.op.value, .int .i64 s.op.n], .agg #[.string r.v, .bool r.h], .agg #[.string s.last.v, .bool s.last.h]] X fun e w' => e = .returned (.tuple #[.agg #[.string wr.v, .bool wr.h], .agg #[.string ls.v, .bool ls.h]]) ∧ Below X.heap.size X w' := fun X hX h64 => by
    refine (step_any s.op.kind s.op.n s.op.key s.op.value r.v s.last.v r.h s.last.h ?_ X hX h64).mono ?_
    · unfold plainS
      split
      · exact hrv
      · exact Nat.zero_le _
    · rintro e w' ⟨rfl, hb⟩
      have e1 : stepS ⟨s.op.kind, s.op.key, s.op.value, s.op.n⟩ ⟨r.v, r.h⟩ ⟨s.last.v, s.last.h⟩ = (wr, ls) := hst
      rw [e1]
      exact ⟨rfl, hb⟩
  have HST := Lib.hid hst
  have HSP := Lib.hid hstep
  clear hst hstep
  obtain ⟨bp, hA, n1, hbp, q0, q1, q2, q3⟩ := hD.opAt s.at_.toNat (by omega)
  have hop : s.plan.getD s.at_.toNat OpS.zero = s.op := rfl
  rw [hop] at q0 q1 q2 q3
  have hlt := hD.lt
  have c4 := hD.c4
  rw [hA] at c4
  have c7 := hD.c7
  have n2 : ¬ g = bp := fun e => n1 e.symm
  have HD := Lib.hid hD
  have HR := Lib.hid hR
  have HS := Lib.hid hs
  have HG := Lib.hid hG
  clear hA hD hR hs hG hop
  go_enter Tryd.func45, Tryd.ntmps45
  go_wp2_with fail
  go_region
  go_wp2_with fail
  generalize hW : ((w.alloc _).alloc _).drew = W
  have hDW : Drv W B g L s := by rw [← hW]; exact ((HD.out.alloc _).alloc _).drew
  have b3 : Blk W w.heap.size 36 #[.int .i64 r.code, .int .i64 r.state, .string r.v, .bool r.h] := by rw [← hW]; exact ((Blk.new w _ _).alloc _).drew
  have b4 : Blk W (w.heap.size + 1) 60 #[.int .i64 s.op.kind, .string s.op.key, .string s.op.value, .int .i64 s.op.n] := by rw [← hW]; exact (Blk.new_ (by simp)).drew
  have hU : Upd (foot g L) w W := by rw [← hW]; exact (((Upd.refl _ _).alloc _).alloc _).drew
  have hGW : Glob W := HG.out.keep (fun k hk => by rw [← hW]; exact (Below.heap_alloc _ _ _ (by have := HD.out.gB; have := HD.out.lt; simp; omega)).trans (Below.heap_alloc _ _ _ (by have := HD.out.gB; have := HD.out.lt; omega)))
  clear hW q0 q1 q2 q3 c4 c7
  have k40 := b4.at_ 0 _ rfl
  have k41 := b4.at_ 1 _ rfl
  have k42 := b4.at_ 2 _ rfl
  have k43 := b4.at_ 3 _ rfl
  have k32 := b3.at_ 2 _ rfl
  have k33 := b3.at_ 3 _ rfl
  have d8 := hDW.c8
  have d9 := hDW.c9
  have s3 := b3.lt
  have s4 := b4.lt
  have hltW := hDW.lt
  have n3 : ¬ g = w.heap.size := by omega
  have n4 : ¬ w.heap.size = g := by omega
  have n5 : ¬ g = w.heap.size + 1 := by omega
  have n6 : ¬ w.heap.size + 1 = g := by omega
  have h64 : 3 ≤ W.heap.size := by have := HD.out.gB; omega
  have HDW := Lib.hid hDW
  have HGW := Lib.hid hGW
  have HU := Lib.hid hU
  have B3 := Lib.hid b3
  have B4 := Lib.hid b4
  clear hDW hGW hU b3 b4
  go_cut [] (fun X => GotCut w B g L { s with write := wr, last := ls } X)
  case first =>
    go_region_with
      (first | (go_at_call 53; refine (HSP.out _ (by exact HGW.out.keep (fun _ _ => rfl)) (by exact h64)).mono ?_; rintro e w1 ⟨rfl, hb1⟩; have hD1 := HDW.out.drew.below hb1; have e4 := B4.out.drew.below hb1 B4.out.lt; have e3 := B3.out.drew.below hb1 B3.out.lt; have j40 := e4.at_ 0 _ rfl; have j41 := e4.at_ 1 _ rfl; have j42 := e4.at_ 2 _ rfl; have j43 := e4.at_ 3 _ rfl; have j32 := e3.at_ 2 _ rfl; have j33 := e3.at_ 3 _ rfl; have d8 := hD1.c8; have d9 := hD1.c9; have d10 := hD1.c10; have d11 := hD1.c11; have f8 := hD1.fz 8; have f9 := hD1.fz 9; have f10 := hD1.fz 10; have f11 := hD1.fz 11; have HD1 := Lib.hid hD1; have HU1 := Lib.hid (HU.out.drew.below hb1); have E4 := Lib.hid e4; clear hb1 hD1 e3 e4))
    all_goals
      go_wp2_with fail
      go_meet
      have hF := (((HD1.out.set10 wr.v).set11 wr.h).set8 ls.v).set9 ls.h
      exact ⟨hF, ((((E4.out.far (p := ⟨g, 10, none⟩) n6 _).far (p := ⟨g, 11, none⟩) n6 _).far (p := ⟨g, 8, none⟩) n6 _).far (p := ⟨g, 9, none⟩) n6 _), ((((HU1.out.at_g).at_g).at_g).at_g)⟩
  case rest =>
    obtain ⟨hD2, b4, hU2⟩ := hcut
    have d12 := hD2.c12
    have d8 := hD2.c8
    have d9 := hD2.c9
    have f12 := hD2.fz 12
    have hlt2 := hD2.lt
    have hB2 : B ≤ wc.heap.size := Nat.le_trans hD2.gB (Nat.le_of_lt hlt2)
    obtain ⟨i0, hi, hz0, hz1, hz2⟩ := info_parts info_res
    obtain ⟨A, c, hv, hn, hcm, hg⟩ := own_slice_form hD2.res
    have hres := hD2.res
    rw [show ({ s with write := wr, last := ls } : DS).results = s.results from rfl] at hres hv
    rw [hv] at d12
    rw [hv] at hres
    have hv12 := hv
    have HD2 := Lib.hid hD2
    have HU2 := Lib.hid hU2
    have HB4 := Lib.hid b4
    have hne4 : ¬ g = w.heap.size + 1 := n5
    have hrl : s.results.length + 1 ≤ 4097 := by omega
    clear hD2 b4 hU2 hv hg hn hcm
    rename_i W2
    go_upto_region 3 with (fail)
    go_cut [] (fun X => GotCut3 w B g L { s with write := wr, last := ls, results := s.results ++ [ls] } s.op X)
    case first =>
      go_region_law ((refine step_append_lies _ (by rfl) (.tmp 39) (.tmp 44) 53 (by rfl) B 52 i0 _ 2 24 Tryd.underlying53 hi hz0 hz1 hz2 rfl (by decide) _ s.results.length (resRow s.results) (by rfl) (by exact (hres.alloc _).drew) ⟨_, 0, none⟩ 1 1 [.string ls.v, .bool ls.h] (by rfl) (by rfl) (by exact two_new _ _ _ _) (two_one _ _) (by omega) (by unfold maxLen; omega) (by omega) (by simp <;> omega) _ rfl ?_; intro g' cap' w6 ho6 hg6 hat6 hl6; have hg7 := hg6; rw [← hv12] at hg7 hat6; have hb6 := ((HD2.out.alloc (Obj.cells #[.string ls.v, .bool ls.h] 52)).drew).grownRes hg7; have e12 : w6.cell? ⟨g, 12, none⟩ = some L.rV := hb6.at_ 12 _ rfl; rw [hv12] at e12; have f12' := hb6.frozen 12; have HO := Lib.hid ho6; have HG7 := Lib.hid hg7; have HAT := Lib.hid hat6; clear ho6 hg6 hg7 hat6 hb6))
      all_goals
        go_wp2_with fail
        go_meet
        have hlen : (s.results ++ [ls]).length = s.results.length + 1 := by simp
        have hO' := HO.out
        rw [show resRow s.results ++ [Value.string ls.v, Value.bool ls.h] = resRow (s.results ++ [ls]) from by simp [resRow, resCells]] at hO'
        rw [← hlen] at hO'
        have hF := ((HD2.out.alloc (Obj.cells #[.string ls.v, .bool ls.h] 52)).drew).setResults HG7.out hO'
        have hn6 : w6.heap[w.heap.size + 1]? = _ := (HG7.out.block (w.heap.size + 1) (by have := HB4.out.lt; simp; omega) (fun e => own_ne_blk HD2.out.res HB4.out (by decide) e.symm)).trans (Below.heap_alloc _ _ _ HB4.out.lt)
        have hb4' : Blk w6 (w.heap.size + 1) 60 #[.int .i64 s.op.kind, .string s.op.key, .string s.op.value, .int .i64 s.op.n] := hn6.trans HB4.out
        have hU6 : Upd (foot g L) w w6 := ((HU2.out.alloc _).drew).grown HG7.out (fun k hk => .inl (.inr (.inl hk)))
        rw [← hlen]
        refine ⟨_, hF, hb4'.far (p := ⟨g, 12, none⟩) n6 _, hU6.at_g, fun k hk => ?_⟩
        rcases hk with x | x | x
        · exact .inl (.inl x)
        · rcases HAT.out with y | y
          · have x' : some g' = some k := x
            exact .inl (.inr (.inl (y.trans x')))
          · have x' : some g' = some k := x
            injection x' with x'
            right
            have h1 := HU2.out.size
            simp at y
            omega
        · exact .inl (.inr (.inr x))
    case rest =>
      obtain ⟨L3, hD3, b4, hU3, hF3⟩ := hcut
      have k40 := b4.at_ 0 _ rfl
      have k41 := b4.at_ 1 _ rfl
      have k42 := b4.at_ 2 _ rfl
      have k43 := b4.at_ 3 _ rfl
      have s4' := b4.lt
      have HD3 := Lib.hid hD3
      have HU3 := Lib.hid hU3
      have HF3 := Lib.hid hF3
      clear hD3 b4 hU3 hF3 hres d12 d8 d9 f12 HB4
      rename_i W3
      go_wp2_with fail
      refine (writes_any _ _ _ _ _).mono ?_
      rintro e w7 ⟨rfl, hb7⟩
      have hD7 := HD3.out.below hb7
      have HD7 := Lib.hid hD7
      have HU7 := Lib.hid (HU3.out.below hb7)
      have e6 := hD7.c6
      have e7 := hD7.c7
      have g6 := hD7.fz 6
      clear hb7 hD7
      have hro : s.readS r = { s with write := wr, last := ls, results := s.results ++ [ls] } := by unfold DS.readS; rw [HST.out]
      cases hwb : writesB s.op.kind with
      | true =>
        have e1 : s.got r = { s with write := wr, last := ls, results := s.results ++ [ls], phase := 4 } := by unfold DS.got; rw [if_pos hwb, hro]
        have HE := Lib.hid e1
        clear e1 hwb hro
        go_wp2_with fail
        refine bodyPost_ret (results_none rfl _ _ _) rfl ?_
        rw [HE.out]
        exact ⟨rfl, DPost.from_ HU7.out HF3.out (DPost.same (HD7.out.set6 4 (fun e => absurd e (by decide))) (Upd.refl _ _).at_g (.inr rfl) (.inr rfl))⟩
      | false =>
        have e1 : s.got r = ({ s with write := wr, last := ls, results := s.results ++ [ls] } : DS).begins (s.at_ + 1) := by unfold DS.got; rw [if_neg (by rw [hwb]; decide), hro]
        have HE := Lib.hid e1
        clear e1 hwb hro
        go_wp2_with fail
        refine (begins_any (s.at_ + 1) HD7.out HR.out h7 (by omega) (by exact hp) HS.out hl).mono ?_
        rintro e w8 ⟨rfl, hP⟩
        have HP := Lib.hid hP
        clear hP
        go_wp2_with fail
        go_end0
        rw [HE.out]
        exact ⟨rfl, DPost.from_ HU7.out HF3.out HP.out⟩
end
end Go.Proofs.YtheecdjpbfkpdaaDoor
