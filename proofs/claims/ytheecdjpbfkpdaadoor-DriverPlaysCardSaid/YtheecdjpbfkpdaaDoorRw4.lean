/-
  Walks of the document's functions: Step (printed by gen_Rw4.py).
-/
import Derived.Test.YtheecdjpbfkpdaaDoorRw3
import Derived.Test.YtheecdjpbfkpdaaDoorStp
namespace Go.Proofs.YtheecdjpbfkpdaaDoor
open Go.RowKit
set_option maxRecDepth 100000
set_option linter.unusedSimpArgs false
set_option linter.unusedVariables false

structure RStepCut (w : World) (k n : Int) (key val : ByteArray) (a b : ResS) (X : World) : Prop where
  b3 : Blk X w.heap.size 60 #[.int .i64 k, .string key, .string val, .int .i64 n]
  b4 : Blk X (w.heap.size + 1) 52 #[.string a.v, .bool a.h]
  b5 : Blk X (w.heap.size + 1 + 1) 52 #[.string b.v, .bool b.h]
  b6 : Blk X (w.heap.size + 1 + 1 + 1) 52 #[.string ⟨#[]⟩, .bool false]
  b7 : Blk X (w.heap.size + 1 + 1 + 1 + 1) 52 #[.string ⟨#[]⟩, .bool false]
  b8 : Blk X (w.heap.size + 1 + 1 + 1 + 1 + 1) 52 #[.string ⟨#[]⟩, .bool false]
  below : Below w.heap.size w X
theorem rstepCut_lit (w : World) (k n : Int) (key val : ByteArray) (a b : ResS) : RStepCut w k n key val a b ((((((w.alloc (.cells #[.int .i64 k, .string key, .string val, .int .i64 n] 60)).alloc (.cells #[.string a.v, .bool a.h] 52)).alloc (.cells #[.string b.v, .bool b.h] 52)).alloc (.cells #[.string ⟨#[]⟩, .bool false] 52)).alloc (.cells #[.string ⟨#[]⟩, .bool false] 52)).alloc (.cells #[.string ⟨#[]⟩, .bool false] 52)) := by
  refine ⟨(((((Blk.new w _ _).alloc _).alloc _).alloc _).alloc _).alloc _, ((((Blk.new_ (by simp)).alloc _).alloc _).alloc _).alloc _, (((Blk.new_ (by simp)).alloc _).alloc _).alloc _, ((Blk.new_ (by simp)).alloc _).alloc _, (Blk.new_ (by simp)).alloc _, Blk.new_ (by simp), ?_⟩
  exact (((((((Below.refl w.heap.size w).alloc (Nat.le_refl _) _).alloc (by simp) _).alloc (by simp <;> omega) _).alloc (by simp <;> omega) _).alloc (by simp <;> omega) _).alloc (by simp <;> omega) _)

set_option maxHeartbeats 4000000 in
theorem refStep_any (k n : Int) (key val hv lv : ByteArray) (hh lh : Bool) (hsz : (plainS ⟨hv, hh⟩).v.size ≤ 281474976710656) (w : World) :
    Calls Tryd.prog 38 #[.agg #[.int .i64 k, .string key, .string val, .int .i64 n], .agg #[.string hv, .bool hh], .agg #[.string lv, .bool lh]] w fun e w' => e = .returned (.tuple #[resV (stepS ⟨k, key, val, n⟩ ⟨hv, hh⟩ ⟨lv, lh⟩).1, resV (stepS ⟨k, key, val, n⟩ ⟨hv, hh⟩ ⟨lv, lh⟩).2]) ∧ Below w.heap.size w w' := by
  have hA : plainS ⟨hv, hh⟩ = (if hh = true then ⟨hv, true⟩ else ResS.zero) := by cases hh <;> rfl
  have hB : plainS ⟨lv, lh⟩ = (if lh = true then ⟨lv, true⟩ else ResS.zero) := by cases lh <;> rfl
  obtain ⟨a, ha⟩ : ∃ a, a = plainS ⟨hv, hh⟩ := ⟨_, rfl⟩
  obtain ⟨b, hb⟩ : ∃ b, b = plainS ⟨lv, lh⟩ := ⟨_, rfl⟩
  have HA := Lib.hid ha
  have HB := Lib.hid hb
  have hsa : a.v.size ≤ 281474976710656 := by rw [ha]; exact hsz
  clear ha hb hA hB hsz
  go_enter Tryd.func38, Tryd.ntmps38
  go_upto_if 14 with (fail)
  go_cut [8] (fun s8 X => s8 = .pointer (some ⟨w.heap.size + 1 + 1 + 1 + 1 + 1, 0, none⟩) ∧ RStepCut w k n key val a ⟨lv, lh⟩ X)
  case first =>
    cases hh
    all_goals
      have ha := HA.out
      subst ha
      go_wp2_with fail
      go_meet
      exact ⟨rfl, rstepCut_lit w k n key val _ ⟨lv, lh⟩⟩
  case rest =>
    obtain ⟨rfl, hC⟩ := hcut
    have c3 := hC.b3
    have c4 := hC.b4
    have c5 := hC.b5
    have c6 := hC.b6
    have c7 := hC.b7
    have c8 := hC.b8
    have hbw := hC.below
    clear hC
    have i50 := c5.at_ 0 _ rfl
    have i51 := c5.at_ 1 _ rfl
    have i80 := c8.at_ 0 _ rfl
    have i81 := c8.at_ 1 _ rfl
    have j50 := c5.frozen 0
    have j51 := c5.frozen 1
    have C3 := Lib.hid c3
    have C4 := Lib.hid c4
    have C5 := Lib.hid c5
    have C6 := Lib.hid c6
    have C7 := Lib.hid c7
    have C8 := Lib.hid c8
    have HBW := Lib.hid hbw
    clear c3 c4 c5 c6 c7 c8 hbw
    go_upto_if 18 with (fail)
    go_cut [] (fun X => RStepCut w k n key val a b X)
    case first =>
      cases lh
      case false =>
        have hb := HB.out
        subst hb
        go_wp2_with fail
        go_meet
        exact ⟨(C3.out.far (by dsimp only; omega) _).far (by dsimp only; omega) _, (C4.out.far (by dsimp only; omega) _).far (by dsimp only; omega) _, (C5.out.set_ 0 _).set_ 1 _, (C6.out.far (by dsimp only; omega) _).far (by dsimp only; omega) _, (C7.out.far (by dsimp only; omega) _).far (by dsimp only; omega) _, (C8.out.far (by dsimp only; omega) _).far (by dsimp only; omega) _, (HBW.out.setCell (by dsimp only; omega) _).setCell (by dsimp only; omega) _⟩
      case true =>
        have hb := HB.out
        subst hb
        go_wp2_with fail
        go_meet
        exact ⟨C3.out, C4.out, C5.out, C6.out, C7.out, C8.out, HBW.out⟩
    case rest =>
    clear C3 C4 C5 C6 C7 C8 HBW i50 i51 i80 i81 j50 j51
    obtain ⟨b3, b4, b5, b6, b7, b8, hbw⟩ := hcut
    have k30 := b3.at_ 0 _ rfl
    have k32 := b3.at_ 2 _ rfl
    have k33 := b3.at_ 3 _ rfl
    have k40 := b4.at_ 0 _ rfl
    have k41 := b4.at_ 1 _ rfl
    have k50 := b5.at_ 0 _ rfl
    have k51 := b5.at_ 1 _ rfl
    have k60 := b6.at_ 0 _ rfl
    have k61 := b6.at_ 1 _ rfl
    have k70 := b7.at_ 0 _ rfl
    have k71 := b7.at_ 1 _ rfl
    have k80 := b8.at_ 0 _ rfl
    have k81 := b8.at_ 1 _ rfl
    have f60 := b6.frozen 0
    have f61 := b6.frozen 1
    have f70 := b7.frozen 0
    have f71 := b7.frozen 1
    have s8 := b8.lt
    have H6 := Lib.hid b6
    have H7 := Lib.hid b7
    have HBx := Lib.hid hbw
    clear b3 b4 b5 b6 b7 b8 hbw
    by_cases q2 : k = 2
    · have p2 : (k == 2) = true := by simpa using q2
      have e : stepS ⟨k, key, val, n⟩ ⟨hv, hh⟩ ⟨lv, lh⟩ = (⟨val, true⟩, a) := by
        rw [HA.out]
        try rw [HB.out]
        unfold stepS
        dsimp only
        repeat' split
        all_goals first | rfl | omega
      have HE := Lib.hid e
      clear e
      go_wp2_with fail
      go_region
      all_goals
        go_wp2_with fail
        rw [HE.out]
        refine bodyPost_ret (v := .tuple #[.agg #[.string val, .bool true], .agg #[.string a.v, .bool a.h]]) (by simp [results, Tryd.results38, go_sem, *]) rfl ⟨rfl, ?_⟩
        exact ((((HBx.out.setCell (by show w.heap.size ≤ w.heap.size + 1 + 1 + 1; omega) _).setCell (by show w.heap.size ≤ w.heap.size + 1 + 1 + 1; omega) _).setCell (by show w.heap.size ≤ w.heap.size + 1 + 1 + 1 + 1; omega) _).setCell (by show w.heap.size ≤ w.heap.size + 1 + 1 + 1 + 1; omega) _).drew
    have p2 : (k == 2) = false := by simpa using q2
    by_cases q4 : k = 4
    · have p4 : (k == 4) = true := by simpa using q4
      have e : stepS ⟨k, key, val, n⟩ ⟨hv, hh⟩ ⟨lv, lh⟩ = (b, a) := by
        rw [HA.out]
        try rw [HB.out]
        unfold stepS
        dsimp only
        repeat' split
        all_goals first | rfl | omega
      have HE := Lib.hid e
      clear e
      go_wp2_with fail
      go_region
      all_goals
        go_wp2_with fail
        rw [HE.out]
        refine bodyPost_ret (v := .tuple #[.agg #[.string b.v, .bool b.h], .agg #[.string a.v, .bool a.h]]) (by simp [results, Tryd.results38, go_sem, *]) rfl ⟨rfl, ?_⟩
        exact ((((HBx.out.setCell (by show w.heap.size ≤ w.heap.size + 1 + 1 + 1; omega) _).setCell (by show w.heap.size ≤ w.heap.size + 1 + 1 + 1; omega) _).setCell (by show w.heap.size ≤ w.heap.size + 1 + 1 + 1 + 1; omega) _).setCell (by show w.heap.size ≤ w.heap.size + 1 + 1 + 1 + 1; omega) _).drew
    have p4 : (k == 4) = false := by simpa using q4
    by_cases q5 : k = 5
    · have p5 : (k == 5) = true := by simpa using q5
      have e : stepS ⟨k, key, val, n⟩ ⟨hv, hh⟩ ⟨lv, lh⟩ = (⟨(textS (clampI (numberS a.v + clampI n))), true⟩, ⟨(textS (clampI (numberS a.v + clampI n))), true⟩) := by
        unfold stepS addS
        dsimp only
        rw [← HA.out]
        repeat' split
        all_goals first | rfl | omega
      have HE := Lib.hid e
      have nb := numberS_bounds a.v
      have cb := clampI_bounds n
      have cb2 := clampI_bounds (numberS a.v + clampI n)
      have hcn : clampI n = if n < -1125899906842624 then -1125899906842624 else if 1125899906842624 < n then 1125899906842624 else n := by unfold clampI; split <;> (try split) <;> omega
      have HCN := Lib.hid hcn
      have hcm : ∀ m : Int, clampI m = if m < -1125899906842624 then -1125899906842624 else if 1125899906842624 < m then 1125899906842624 else m := by intro m; unfold clampI; split <;> (try split) <;> omega
      have HCM := Lib.hid hcm
      clear e hcn hcm q5
      obtain ⟨W1, rfl⟩ : ∃ x : World, x = wc := ⟨_, rfl⟩
      go_upto_if 38 with (fail)
      go_cut [9] (fun s9 X => s9 = .int .i64 (if 1125899906842624 < n then 1125899906842624 else n) ∧ W1 = X)
      case first =>
        by_cases c1 : 1125899906842624 < n
        · go_wp2_with fail
          go_meet
          exact ⟨by rw [if_pos c1], rfl⟩
        · go_wp2_with fail
          go_meet
          exact ⟨by rw [if_neg (by omega)], rfl⟩
      case rest =>
      obtain ⟨rfl, rfl⟩ := hcut
      go_upto_if 40 with (fail)
      go_cut [9] (fun s9 X => s9 = .int .i64 (clampI n) ∧ W1 = X)
      case first =>
        by_cases c1 : 1125899906842624 < n
        · have hz : clampI n = 1125899906842624 := by rw [HCN.out]; split <;> (try split) <;> omega
          have HZ := Lib.hid hz
          rw [if_pos c1]
          clear hz
          go_wp2_with fail
          go_meet
          exact ⟨by rw [HZ.out], rfl⟩
        · rw [if_neg c1]
          by_cases c2 : n < -1125899906842624
          · have hz : clampI n = -1125899906842624 := by rw [HCN.out]; split <;> (try split) <;> omega
            have HZ := Lib.hid hz
            clear hz
            go_wp2_with fail
            go_meet
            exact ⟨by rw [HZ.out], rfl⟩
          · have hz : clampI n = n := by rw [HCN.out]; split <;> (try split) <;> omega
            have HZ := Lib.hid hz
            clear hz
            go_wp2_with fail
            go_meet
            exact ⟨by rw [HZ.out], rfl⟩
      case rest =>
      obtain ⟨rfl, rfl⟩ := hcut
      have hN := refNumber_any a.v hsa W1
      rw [numR_eq] at hN
      have HN := Lib.hid hN
      clear hN
      go_wp2_with fail
      refine HN.out.mono ?_
      rintro e w2 ⟨rfl, hb2⟩
      have HB2 := Lib.hid (HBx.out.trans (hb2.mono HBx.out.size))
      have y6 := H6.out.below hb2 H6.out.lt
      have y7 := H7.out.below hb2 H7.out.lt
      have H6 := Lib.hid y6
      have H7 := Lib.hid y7
      have s8 : w.heap.size + 1 + 1 + 1 + 1 + 1 < w2.heap.size := by have := hb2.size; omega
      clear hb2 y6 y7 k30 k32 k33 k40 k41 k50 k51 k60 k61 k70 k71 k80 k81 f60 f61 f70 f71 HN HBx
      generalize numberS a.v = na at *
      generalize clampI n = nc at *
      have hcom : nc + na = na + nc := Int.add_comm _ _
      have HCO := Lib.hid hcom
      clear hcom
      go_upto_if 47 with (fail)
      go_cut [9] (fun s9 X => s9 = .int .i64 (if 1125899906842624 < nc + na then 1125899906842624 else nc + na) ∧ w2 = X)
      case first =>
        by_cases c1 : 1125899906842624 < nc + na
        · go_wp2_with fail
          go_meet
          exact ⟨by rw [if_pos c1], rfl⟩
        · go_wp2_with fail
          go_meet
          exact ⟨by rw [if_neg (by omega)], rfl⟩
      case rest =>
      obtain ⟨rfl, rfl⟩ := hcut
      go_upto_if 49 with (fail)
      go_cut [9] (fun s9 X => s9 = .int .i64 (clampI (na + nc)) ∧ w2 = X)
      case first =>
        by_cases c1 : 1125899906842624 < nc + na
        · have hz : clampI (na + nc) = 1125899906842624 := by rw [HCM.out]; split <;> (try split) <;> omega
          have HZ := Lib.hid hz
          rw [if_pos c1]
          clear hz
          go_wp2_with fail
          go_meet
          exact ⟨by rw [HZ.out], rfl⟩
        · rw [if_neg c1]
          by_cases c2 : nc + na < -1125899906842624
          · have hz : clampI (na + nc) = -1125899906842624 := by rw [HCM.out]; split <;> (try split) <;> omega
            have HZ := Lib.hid hz
            clear hz
            go_wp2_with fail
            go_meet
            exact ⟨by rw [HZ.out], rfl⟩
          · have hz : clampI (na + nc) = nc + na := by rw [HCM.out]; split <;> (try split) <;> omega
            have HZ := Lib.hid hz
            clear hz
            go_wp2_with fail
            go_meet
            exact ⟨by rw [HZ.out], rfl⟩
      case rest =>
      obtain ⟨rfl, rfl⟩ := hcut
      generalize clampI (na + nc) = cc at *
      go_wp2_with fail
      refine (refText_any _ (by omega) (by omega) _).mono ?_
      rintro e w3 ⟨rfl, hb3⟩
      have y6 := H6.out.below hb3 H6.out.lt
      have y7 := H7.out.below hb3 H7.out.lt
      have k60 := y6.at_ 0 _ rfl
      have k61 := y6.at_ 1 _ rfl
      have k70 := y7.at_ 0 _ rfl
      have k71 := y7.at_ 1 _ rfl
      have f60 := y6.frozen 0
      have f61 := y6.frozen 1
      have f70 := y7.frozen 0
      have f71 := y7.frozen 1
      have s7 := y7.lt
      have s6 := y6.lt
      have HB3 := Lib.hid (HB2.out.trans (hb3.mono HB2.out.size))
      clear hb3 y6 y7
      go_wp2_with fail
      go_region
      all_goals
        go_wp2_with fail
        rw [HE.out]
        refine bodyPost_ret (v := .tuple #[.agg #[.string (textS cc), .bool true], .agg #[.string (textS cc), .bool true]]) (by simp [results, Tryd.results38, go_sem, *]) rfl ⟨rfl, ?_⟩
        have X := (((HB3.out.setCell (p := ⟨w.heap.size + 1 + 1 + 1, 0, none⟩) (by show w.heap.size ≤ w.heap.size + 1 + 1 + 1; omega) (.string (textS cc))).setCell (p := ⟨w.heap.size + 1 + 1 + 1, 1, none⟩) (by show w.heap.size ≤ w.heap.size + 1 + 1 + 1; omega) (.bool true)).setCell (p := ⟨w.heap.size + 1 + 1 + 1 + 1, 0, none⟩) (by show w.heap.size ≤ w.heap.size + 1 + 1 + 1 + 1; omega) (.string (textS cc))).setCell (p := ⟨w.heap.size + 1 + 1 + 1 + 1, 1, none⟩) (by show w.heap.size ≤ w.heap.size + 1 + 1 + 1 + 1; omega) (.bool true)
        exact (X.alloc X.size _).drew
    have p5 : (k == 5) = false := by simpa using q5
    by_cases q1 : k = 1
    · have p1 : (k == 1) = true := by simpa using q1
      have e : stepS ⟨k, key, val, n⟩ ⟨hv, hh⟩ ⟨lv, lh⟩ = (ResS.zero, a) := by
        rw [HA.out]
        try rw [HB.out]
        unfold stepS
        dsimp only
        repeat' split
        all_goals first | rfl | omega
      have HE := Lib.hid e
      clear e
      go_wp2_with fail
      go_region
      all_goals
        go_wp2_with fail
        rw [HE.out]
        refine bodyPost_ret (v := .tuple #[.agg #[.string ⟨#[]⟩, .bool false], .agg #[.string a.v, .bool a.h]]) (by simp [results, Tryd.results38, go_sem, *]) rfl ⟨rfl, ?_⟩
        exact ((((HBx.out.setCell (by show w.heap.size ≤ w.heap.size + 1 + 1 + 1; omega) _).setCell (by show w.heap.size ≤ w.heap.size + 1 + 1 + 1; omega) _).setCell (by show w.heap.size ≤ w.heap.size + 1 + 1 + 1 + 1; omega) _).setCell (by show w.heap.size ≤ w.heap.size + 1 + 1 + 1 + 1; omega) _).drew
    have p1 : (k == 1) = false := by simpa using q1
    by_cases q3 : k = 3
    · have p3 : (k == 3) = true := by simpa using q3
      have e : stepS ⟨k, key, val, n⟩ ⟨hv, hh⟩ ⟨lv, lh⟩ = (ResS.zero, a) := by
        rw [HA.out]
        try rw [HB.out]
        unfold stepS
        dsimp only
        repeat' split
        all_goals first | rfl | omega
      have HE := Lib.hid e
      clear e
      go_wp2_with fail
      go_region
      all_goals
        go_wp2_with fail
        rw [HE.out]
        refine bodyPost_ret (v := .tuple #[.agg #[.string ⟨#[]⟩, .bool false], .agg #[.string a.v, .bool a.h]]) (by simp [results, Tryd.results38, go_sem, *]) rfl ⟨rfl, ?_⟩
        exact ((((HBx.out.setCell (by show w.heap.size ≤ w.heap.size + 1 + 1 + 1; omega) _).setCell (by show w.heap.size ≤ w.heap.size + 1 + 1 + 1; omega) _).setCell (by show w.heap.size ≤ w.heap.size + 1 + 1 + 1 + 1; omega) _).setCell (by show w.heap.size ≤ w.heap.size + 1 + 1 + 1 + 1; omega) _).drew
    have p3 : (k == 3) = false := by simpa using q3
    have e : stepS ⟨k, key, val, n⟩ ⟨hv, hh⟩ ⟨lv, lh⟩ = (ResS.zero, ResS.zero) := by
      unfold stepS
      dsimp only
      repeat' split
      all_goals first | rfl | omega
    have HE := Lib.hid e
    clear e
    go_wp2_with fail
    go_region
    all_goals
      go_wp2_with fail
      rw [HE.out]
      refine bodyPost_ret (v := .tuple #[.agg #[.string ⟨#[]⟩, .bool false], .agg #[.string ⟨#[]⟩, .bool false]]) (by simp [results, Tryd.results38, go_sem, *]) rfl ⟨rfl, ?_⟩
      exact ((((HBx.out.setCell (by show w.heap.size ≤ w.heap.size + 1 + 1 + 1; omega) _).setCell (by show w.heap.size ≤ w.heap.size + 1 + 1 + 1; omega) _).setCell (by show w.heap.size ≤ w.heap.size + 1 + 1 + 1 + 1; omega) _).setCell (by show w.heap.size ≤ w.heap.size + 1 + 1 + 1 + 1; omega) _).drew
end Go.Proofs.YtheecdjpbfkpdaaDoor
