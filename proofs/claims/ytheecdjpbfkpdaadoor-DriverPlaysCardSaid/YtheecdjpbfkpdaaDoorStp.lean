/-
  Walks: the plan's Step, kind by kind (printed by gen_Stp.py).
-/
import Derived.Test.YtheecdjpbfkpdaaDoorNum
import Derived.Deep.RegionHeld3
import Derived.Deep.RegionWith
import Derived.Deep.DeepCutAuto
import Derived.IntWalk
namespace Go.Proofs.YtheecdjpbfkpdaaDoor
open Go.RowKit
set_option maxRecDepth 100000
set_option linter.unusedSimpArgs false
set_option linter.unusedVariables false

/-- What an operation writes, and tells. -/
def addS (o : OpS) (has : ResS) : ResS := ⟨textS (clampI (numberS (plainS has).v + clampI o.n)), true⟩
def stepS (o : OpS) (has last : ResS) : ResS × ResS :=
  if o.kind = 1 then (ResS.zero, plainS has)
  else if o.kind = 2 then (⟨o.value, true⟩, plainS has)
  else if o.kind = 3 then (ResS.zero, plainS has)
  else if o.kind = 4 then (plainS last, plainS has)
  else if o.kind = 5 then (addS o has, addS o has)
  else (ResS.zero, ResS.zero)
def resV (r : ResS) : Value := .agg #[.string r.v, .bool r.h]
theorem clampI_bounds (n : Int) : -1125899906842624 ≤ clampI n ∧ clampI n ≤ 1125899906842624 := by unfold clampI; omega
theorem numberS_bounds (s : ByteArray) : -1125899906842624 ≤ numberS s ∧ numberS s ≤ 1125899906842624 := by
  unfold numberS
  split
  · rename_i v h
    split
    · rename_i h'
      have := clampI_bounds v
      rw [h'.2] at this
      exact this
    · omega
  · omega

structure StepCut (w : World) (k n : Int) (key val hv lv : ByteArray) (hh lh : Bool) (X : World) : Prop where
  b3 : Blk X w.heap.size 60 #[.int .i64 k, .string key, .string val, .int .i64 n]
  b4 : Blk X (w.heap.size + 1) 52 #[.string (plainS ⟨hv, hh⟩).v, .bool (plainS ⟨hv, hh⟩).h]
  b5 : Blk X (w.heap.size + 2) 52 #[.string (plainS ⟨lv, lh⟩).v, .bool (plainS ⟨lv, lh⟩).h]
  b6 : Blk X (w.heap.size + 3) 52 #[.string ⟨#[]⟩, .bool false]
  b7 : Blk X (w.heap.size + 4) 52 #[.string ⟨#[]⟩, .bool false]
  below : Below w.heap.size w X

set_option maxHeartbeats 2000000 in
theorem step_any (k n : Int) (key val hv lv : ByteArray) (hh lh : Bool) (hsz : (plainS ⟨hv, hh⟩).v.size ≤ 281474976710656) (w : World) (hG : Glob w) (hw : 3 ≤ w.heap.size) :
    Calls Tryd.prog 53 #[.agg #[.int .i64 k, .string key, .string val, .int .i64 n], .agg #[.string hv, .bool hh], .agg #[.string lv, .bool lh]] w fun e w' => e = .returned (.tuple #[resV (stepS ⟨k, key, val, n⟩ ⟨hv, hh⟩ ⟨lv, lh⟩).1, resV (stepS ⟨k, key, val, n⟩ ⟨hv, hh⟩ ⟨lv, lh⟩).2]) ∧ Below w.heap.size w w' := by
  go_enter Tryd.func53, Tryd.ntmps53
  go_wp2_with fail
  have b3 : Blk _ w.heap.size 60 #[.int .i64 k, .string key, .string val, .int .i64 n] := ((((Blk.new w 60 #[.int .i64 k, .string key, .string val, .int .i64 n]).alloc (.cells #[.string hv, .bool hh] 52)).alloc (.cells #[.string lv, .bool lh] 52)).alloc (.cells #[.string ⟨#[]⟩, .bool false] 52)).alloc (.cells #[.string ⟨#[]⟩, .bool false] 52)
  have b4 : Blk _ (w.heap.size + 1) 52 #[.string hv, .bool hh] := (((Blk.new_ (w := w.alloc (.cells #[.int .i64 k, .string key, .string val, .int .i64 n] 60)) (t := 52) (cs := #[.string hv, .bool hh]) (k := w.heap.size + 1) (by simp)).alloc (.cells #[.string lv, .bool lh] 52)).alloc (.cells #[.string ⟨#[]⟩, .bool false] 52)).alloc (.cells #[.string ⟨#[]⟩, .bool false] 52)
  have b5 : Blk _ (w.heap.size + 2) 52 #[.string lv, .bool lh] := ((Blk.new_ (w := (w.alloc (.cells #[.int .i64 k, .string key, .string val, .int .i64 n] 60)).alloc (.cells #[.string hv, .bool hh] 52)) (t := 52) (cs := #[.string lv, .bool lh]) (k := w.heap.size + 2) (by simp)).alloc (.cells #[.string ⟨#[]⟩, .bool false] 52)).alloc (.cells #[.string ⟨#[]⟩, .bool false] 52)
  have b6 : Blk _ (w.heap.size + 3) 52 #[.string ⟨#[]⟩, .bool false] := (Blk.new_ (w := ((w.alloc (.cells #[.int .i64 k, .string key, .string val, .int .i64 n] 60)).alloc (.cells #[.string hv, .bool hh] 52)).alloc (.cells #[.string lv, .bool lh] 52)) (t := 52) (cs := #[.string ⟨#[]⟩, .bool false]) (k := w.heap.size + 3) (by simp)).alloc (.cells #[.string ⟨#[]⟩, .bool false] 52)
  have b7 : Blk _ (w.heap.size + 4) 52 #[.string ⟨#[]⟩, .bool false] := (Blk.new_ (w := (((w.alloc (.cells #[.int .i64 k, .string key, .string val, .int .i64 n] 60)).alloc (.cells #[.string hv, .bool hh] 52)).alloc (.cells #[.string lv, .bool lh] 52)).alloc (.cells #[.string ⟨#[]⟩, .bool false] 52)) (t := 52) (cs := #[.string ⟨#[]⟩, .bool false]) (k := w.heap.size + 4) (by simp))
  have HB : Below w.heap.size w _ := (((((Below.refl w.heap.size w).alloc (Nat.le_refl _) (.cells #[.int .i64 k, .string key, .string val, .int .i64 n] 60)).alloc (by simp) (.cells #[.string hv, .bool hh] 52)).alloc (by simp <;> omega) (.cells #[.string lv, .bool lh] 52)).alloc (by simp <;> omega) (.cells #[.string ⟨#[]⟩, .bool false] 52)).alloc (by simp <;> omega) (.cells #[.string ⟨#[]⟩, .bool false] 52)
  generalize hW : ((((w.alloc _).alloc _).alloc _).alloc _).alloc _ = W at b3 b4 b5 b6 b7 HB ⊢
  clear hW
  have d3 := b3.drew
  have d4 := b4.drew
  have d5 := b5.drew
  have d6 := b6.drew
  have d7 := b7.drew
  have k40 := b4.at_ 0 _ rfl
  have k41 := b4.at_ 1 _ rfl
  have k50 := b5.at_ 0 _ rfl
  have k51 := b5.at_ 1 _ rfl
  have s7 := b7.lt
  have hz : W.drew.heap.size = W.heap.size := rfl
  clear b3 b4 b5 b6 b7
  go_cut [] (fun X => StepCut w k n key val hv lv hh lh X)
  case first =>
    go_region_with
      (first | (go_at_call 56; refine (plain_any _ _ _).mono ?_; rintro e w2 ⟨rfl, hb2⟩; have s2 := hb2.size; have f3 := e3.below hb2 (by omega); have f4 := e4.below hb2 (by omega); have f5 := e5.below hb2 (by omega); have f6 := e6.below hb2 (by omega); have f7 := e7.below hb2 (by omega); have j40 := f4.at_ 0 _ rfl; have j41 := f4.at_ 1 _ rfl; have j50 := f5.at_ 0 _ rfl; have j51 := f5.at_ 1 _ rfl; have u40 := f4.frozen 0; have u41 := f4.frozen 1; have u50 := f5.frozen 0; have u51 := f5.frozen 1; have HB2 := HB1.trans (hb2.mono (by omega)); have q7 := f7.lt; clear hb2) | (go_at_call 56; refine (plain_any _ _ _).mono ?_; rintro e w1 ⟨rfl, hb1⟩; have s1 := hb1.size; have e3 := d3.below hb1 (by omega); have e4 := d4.below hb1 (by omega); have e5 := d5.below hb1 (by omega); have e6 := d6.below hb1 (by omega); have e7 := d7.below hb1 (by omega); have i40 := e4.at_ 0 _ rfl; have i41 := e4.at_ 1 _ rfl; have i50 := e5.at_ 0 _ rfl; have i51 := e5.at_ 1 _ rfl; have s8 := e7.lt; have HB1 := HB.drew.trans (hb1.mono (by omega)); clear hb1))
    all_goals
      go_wp2_with fail
      go_meet
      exact ⟨(((f3.far (by simp <;> omega) _).far (by simp <;> omega) _).far (by simp <;> omega) _).far (by simp <;> omega) _, (((f4.set_ 0 _).set_ 1 _).far (by simp) _).far (by simp) _, (((f5.far (by simp) _).far (by simp) _).set_ 0 _).set_ 1 _,
        (((f6.far (by simp) _).far (by simp) _).far (by simp) _).far (by simp) _, (((f7.far (by simp) _).far (by simp) _).far (by simp) _).far (by simp) _, (((HB2.setCell (by simp) _).setCell (by simp) _).setCell (by simp <;> omega) _).setCell (by simp <;> omega) _⟩
  case rest =>
    obtain ⟨b3, b4, b5, b6, b7, HB⟩ := hcut
    have k30 := b3.at_ 0 _ rfl
    have k32 := b3.at_ 2 _ rfl
    have k33 := b3.at_ 3 _ rfl
    have k40 := b4.at_ 0 _ rfl
    have k41 := b4.at_ 1 _ rfl
    have k50 := b5.at_ 0 _ rfl
    have k51 := b5.at_ 1 _ rfl
    have k60 := b6.at_ 0 _ rfl
    have k61 := b6.at_ 1 _ rfl
    have k70 := b7.at_ 0 _ rfl
    have k71 := b7.at_ 1 _ rfl
    have f60 := b6.frozen 0
    have f61 := b6.frozen 1
    have f70 := b7.frozen 0
    have f71 := b7.frozen 1
    have s7 := b7.lt
    have H3 := Lib.hid b3
    have H4 := Lib.hid b4
    have H5 := Lib.hid b5
    have H6 := Lib.hid b6
    have H7 := Lib.hid b7
    have HBx := Lib.hid HB
    clear b3 b4 b5 b6 b7 HB
    by_cases q1 : k = 1
    · have p1 : (k == 1) = true := by simpa using q1
      have e : stepS ⟨k, key, val, n⟩ ⟨hv, hh⟩ ⟨lv, lh⟩ = (ResS.zero, (plainS ⟨hv, hh⟩)) := by unfold stepS; rw [if_pos q1]
      have HE := Lib.hid e
      clear e
      go_wp2_with fail
      all_goals
        try go_region
        all_goals
          go_wp2_with fail
          rw [HE.out]
          refine bodyPost_ret (v := .tuple #[.agg #[.string ⟨#[]⟩, .bool false], .agg #[.string (plainS ⟨hv, hh⟩).v, .bool (plainS ⟨hv, hh⟩).h]]) (by simp [results, Tryd.results53, go_sem, *]) rfl ⟨rfl, ?_⟩
          exact ((((HBx.out.setCell (by show w.heap.size ≤ w.heap.size + 1 + 1 + 1; omega) _).setCell (by show w.heap.size ≤ w.heap.size + 1 + 1 + 1; omega) _).setCell (by show w.heap.size ≤ w.heap.size + 1 + 1 + 1 + 1; omega) _).setCell (by show w.heap.size ≤ w.heap.size + 1 + 1 + 1 + 1; omega) _).drew
    have p1 : (k == 1) = false := by simpa using q1
    by_cases q2 : k = 2
    · have p2 : (k == 2) = true := by simpa using q2
      have e : stepS ⟨k, key, val, n⟩ ⟨hv, hh⟩ ⟨lv, lh⟩ = (⟨val, true⟩, (plainS ⟨hv, hh⟩)) := by unfold stepS; rw [if_neg q1]; rw [if_pos q2]
      have HE := Lib.hid e
      clear e
      go_wp2_with fail
      all_goals
        try go_region
        all_goals
          go_wp2_with fail
          rw [HE.out]
          refine bodyPost_ret (v := .tuple #[.agg #[.string val, .bool true], .agg #[.string (plainS ⟨hv, hh⟩).v, .bool (plainS ⟨hv, hh⟩).h]]) (by simp [results, Tryd.results53, go_sem, *]) rfl ⟨rfl, ?_⟩
          exact ((((HBx.out.setCell (by show w.heap.size ≤ w.heap.size + 1 + 1 + 1; omega) _).setCell (by show w.heap.size ≤ w.heap.size + 1 + 1 + 1; omega) _).setCell (by show w.heap.size ≤ w.heap.size + 1 + 1 + 1 + 1; omega) _).setCell (by show w.heap.size ≤ w.heap.size + 1 + 1 + 1 + 1; omega) _).drew
    have p2 : (k == 2) = false := by simpa using q2
    by_cases q3 : k = 3
    · have p3 : (k == 3) = true := by simpa using q3
      have e : stepS ⟨k, key, val, n⟩ ⟨hv, hh⟩ ⟨lv, lh⟩ = (ResS.zero, (plainS ⟨hv, hh⟩)) := by unfold stepS; rw [if_neg q1]; rw [if_neg q2]; rw [if_pos q3]
      have HE := Lib.hid e
      clear e
      go_wp2_with fail
      all_goals
        try go_region
        all_goals
          go_wp2_with fail
          rw [HE.out]
          refine bodyPost_ret (v := .tuple #[.agg #[.string ⟨#[]⟩, .bool false], .agg #[.string (plainS ⟨hv, hh⟩).v, .bool (plainS ⟨hv, hh⟩).h]]) (by simp [results, Tryd.results53, go_sem, *]) rfl ⟨rfl, ?_⟩
          exact ((((HBx.out.setCell (by show w.heap.size ≤ w.heap.size + 1 + 1 + 1; omega) _).setCell (by show w.heap.size ≤ w.heap.size + 1 + 1 + 1; omega) _).setCell (by show w.heap.size ≤ w.heap.size + 1 + 1 + 1 + 1; omega) _).setCell (by show w.heap.size ≤ w.heap.size + 1 + 1 + 1 + 1; omega) _).drew
    have p3 : (k == 3) = false := by simpa using q3
    by_cases q4 : k = 4
    · have p4 : (k == 4) = true := by simpa using q4
      have e : stepS ⟨k, key, val, n⟩ ⟨hv, hh⟩ ⟨lv, lh⟩ = ((plainS ⟨lv, lh⟩), (plainS ⟨hv, hh⟩)) := by unfold stepS; rw [if_neg q1]; rw [if_neg q2]; rw [if_neg q3]; rw [if_pos q4]
      have HE := Lib.hid e
      clear e
      go_wp2_with fail
      all_goals
        try go_region
        all_goals
          go_wp2_with fail
          rw [HE.out]
          refine bodyPost_ret (v := .tuple #[.agg #[.string (plainS ⟨lv, lh⟩).v, .bool (plainS ⟨lv, lh⟩).h], .agg #[.string (plainS ⟨hv, hh⟩).v, .bool (plainS ⟨hv, hh⟩).h]]) (by simp [results, Tryd.results53, go_sem, *]) rfl ⟨rfl, ?_⟩
          exact ((((HBx.out.setCell (by show w.heap.size ≤ w.heap.size + 1 + 1 + 1; omega) _).setCell (by show w.heap.size ≤ w.heap.size + 1 + 1 + 1; omega) _).setCell (by show w.heap.size ≤ w.heap.size + 1 + 1 + 1 + 1; omega) _).setCell (by show w.heap.size ≤ w.heap.size + 1 + 1 + 1 + 1; omega) _).drew
    have p4 : (k == 4) = false := by simpa using q4
    by_cases q5 : k = 5
    · have p5 : (k == 5) = true := by simpa using q5
      have e : stepS ⟨k, key, val, n⟩ ⟨hv, hh⟩ ⟨lv, lh⟩ = (addS ⟨k, key, val, n⟩ ⟨hv, hh⟩, addS ⟨k, key, val, n⟩ ⟨hv, hh⟩) := by unfold stepS; rw [if_neg q1]; rw [if_neg q2]; rw [if_neg q3]; rw [if_neg q4]; rw [if_pos q5]
      have HE := Lib.hid e
      have hGx : Glob wc := hG.below HBx.out hw
      have HGx := Lib.hid hGx
      have hwx : 3 ≤ wc.heap.size := Nat.le_trans hw HBx.out.size
      have nb := numberS_bounds (plainS ⟨hv, hh⟩).v
      have cb := clampI_bounds n
      have cb2 := clampI_bounds (numberS (plainS ⟨hv, hh⟩).v + clampI n)
      have hwr : IntKind.i64.wrap (numberS (plainS ⟨hv, hh⟩).v + clampI n) = numberS (plainS ⟨hv, hh⟩).v + clampI n := IntWalk.i64_in _ (by omega)
      have HWR := Lib.hid hwr
      clear e hwr hG hGx q1 q2 q3 q4 q5
      go_upto_region 12 with (fail)
      go_cut [8] (fun s8 X => s8 = .int .i64 (clampI (numberS (plainS ⟨hv, hh⟩).v + clampI n)) ∧ Below wc.heap.size wc X)
      case first =>
        go_region_with
          (first | (go_at_call 58; refine (number_any _ hsz _ (by exact HGx.out.keep (fun _ _ => rfl)) (by exact hwx)).mono ?_; rintro e w1 ⟨rfl, hb1⟩; have hb : Below wc.heap.size wc w1 := ⟨hb1.os, hb1.tape, hb1.output, hb1.size, hb1.block⟩; have e33 := (H3.out.below hb H3.out.lt).at_ 3 _ rfl; have HN := Lib.hid hb; clear hb hb1) | (go_at_call 57; refine (clamp_any _ _).mono ?_; rintro e w2 ⟨rfl, qx, rfl⟩))
        all_goals
          go_wp2_with fail
          go_meet
          exact ⟨by rw [HWR.out], by repeat (first | exact HN.out | refine below_drewN ?_ _ | refine Below.drew ?_)⟩
      case rest =>
        obtain ⟨rfl, hbx⟩ := hcut
        have hG2 := Lib.hid (HGx.out.below hbx hwx)
        have B6 := Lib.hid (H6.out.below hbx H6.out.lt)
        have B7 := Lib.hid (H7.out.below hbx H7.out.lt)
        have HB2 := Lib.hid (HBx.out.trans (hbx.mono HBx.out.size))
        clear hbx H3 H4 H5 H6 H7 HBx HGx k30 k32 k33 k40 k41 k50 k51 k60 k61 k70 k71 f60 f61 f70 f71 s7 hwx
        rename_i W2
        go_wp2_with fail
        refine (text_any _ (by omega) (by omega) _ (by exact hG2.out)).mono ?_
        rintro e w3 ⟨rfl, hb3⟩
        have y6 := B6.out.below hb3 B6.out.lt
        have y7 := B7.out.below hb3 B7.out.lt
        have k60 := y6.at_ 0 _ rfl
        have k61 := y6.at_ 1 _ rfl
        have k70 := y7.at_ 0 _ rfl
        have k71 := y7.at_ 1 _ rfl
        have f60 := y6.frozen 0
        have f61 := y6.frozen 1
        have f70 := y7.frozen 0
        have f71 := y7.frozen 1
        have s7 := y7.lt
        have s6 := y6.lt
        have HB3 := Lib.hid (HB2.out.trans (hb3.mono HB2.out.size))
        clear hb3 y6 y7
        go_wp2_with fail
        go_region
        all_goals
          go_wp2_with fail
          rw [HE.out]
          refine bodyPost_ret (v := .tuple #[.agg #[.string (textS (clampI (numberS (plainS ⟨hv, hh⟩).v + clampI n))), .bool true], .agg #[.string (textS (clampI (numberS (plainS ⟨hv, hh⟩).v + clampI n))), .bool true]]) (by simp [results, Tryd.results53, go_sem, *]) rfl ⟨rfl, ?_⟩
          have X := (((HB3.out.setCell (p := ⟨w.heap.size + 1 + 1 + 1, 0, none⟩) (by show w.heap.size ≤ w.heap.size + 1 + 1 + 1; omega) (.string (textS (clampI (numberS (plainS ⟨hv, hh⟩).v + clampI n))))).setCell (p := ⟨w.heap.size + 1 + 1 + 1, 1, none⟩) (by show w.heap.size ≤ w.heap.size + 1 + 1 + 1; omega) (.bool true)).setCell (p := ⟨w.heap.size + 1 + 1 + 1 + 1, 0, none⟩) (by show w.heap.size ≤ w.heap.size + 1 + 1 + 1 + 1; omega) (.string (textS (clampI (numberS (plainS ⟨hv, hh⟩).v + clampI n))))).setCell (p := ⟨w.heap.size + 1 + 1 + 1 + 1, 1, none⟩) (by show w.heap.size ≤ w.heap.size + 1 + 1 + 1 + 1; omega) (.bool true)
          exact (X.alloc X.size _).drew
    have p5 : (k == 5) = false := by simpa using q5
    have e : stepS ⟨k, key, val, n⟩ ⟨hv, hh⟩ ⟨lv, lh⟩ = (ResS.zero, ResS.zero) := by unfold stepS; rw [if_neg q1]; rw [if_neg q2]; rw [if_neg q3]; rw [if_neg q4]; rw [if_neg q5]
    have HE := Lib.hid e
    clear e
    go_wp2_with fail
    all_goals
      try go_region
      all_goals
        go_wp2_with fail
        rw [HE.out]
        refine bodyPost_ret (v := .tuple #[.agg #[.string ⟨#[]⟩, .bool false], .agg #[.string ⟨#[]⟩, .bool false]]) (by simp [results, Tryd.results53, go_sem, *]) rfl ⟨rfl, ?_⟩
        exact ((((HBx.out.setCell (by show w.heap.size ≤ w.heap.size + 1 + 1 + 1; omega) _).setCell (by show w.heap.size ≤ w.heap.size + 1 + 1 + 1; omega) _).setCell (by show w.heap.size ≤ w.heap.size + 1 + 1 + 1 + 1; omega) _).setCell (by show w.heap.size ≤ w.heap.size + 1 + 1 + 1 + 1; omega) _)
end Go.Proofs.YtheecdjpbfkpdaaDoor
