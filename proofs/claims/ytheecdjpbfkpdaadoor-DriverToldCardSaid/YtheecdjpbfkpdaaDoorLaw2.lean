/-
  Walk: the law DriverTold.
-/
import Derived.Test.YtheecdjpbfkpdaaDoorLaw1
namespace Go.Proofs.YtheecdjpbfkpdaaDoor
open Go.RowKit
set_option maxRecDepth 100000
set_option linter.unusedSimpArgs false
set_option linter.unusedVariables false

theorem tldSt1 (r : RepS) (st : Int) : tldSt 1 r st = if r.code = 9 then 3 else st := by
  unfold tldSt
  by_cases h : r.code = 9
  · rw [if_neg (by omega), if_pos ⟨rfl, h⟩, if_pos h]
  · rw [if_neg h]
    split
    · rw [if_neg (fun e => e rfl)]
    · rw [if_neg (fun e => h e.2)]
theorem tldSt8 (r : RepS) (st : Int) : tldSt 8 r st = if r.code = 0 ∧ r.state = 3 then r.state else st := by
  unfold tldSt
  by_cases h : r.code = 0 ∧ r.state = 3
  · rw [if_pos ⟨.inr (.inl rfl), h.1, .inl h.2⟩, if_pos (by decide), if_pos h]
  · rw [if_neg h, if_neg (by omega), if_neg (by omega)]
theorem tldSt56 {k : Int} (hk : k = 5 ∨ k = 6) (r : RepS) (st : Int) : tldSt k r st = if r.code = 0 ∧ (r.state = 3 ∨ r.state = 2) then r.state else st := by
  unfold tldSt
  by_cases h : r.code = 0 ∧ (r.state = 3 ∨ r.state = 2)
  · rw [if_pos ⟨by omega, h.1, by omega⟩, if_pos (by omega), if_pos h]
  · rw [if_neg h, if_neg (by omega), if_neg (by omega)]
theorem tldSt5 (r : RepS) (st : Int) : tldSt 5 r st = if r.code = 0 ∧ (r.state = 3 ∨ r.state = 2) then r.state else st := tldSt56 (.inl rfl) r st
theorem tldSt6 (r : RepS) (st : Int) : tldSt 6 r st = if r.code = 0 ∧ (r.state = 3 ∨ r.state = 2) then r.state else st := tldSt56 (.inr rfl) r st
theorem tldSt2 (r : RepS) (st : Int) : tldSt 2 r st = st := tldSt_acc r st (by decide)
theorem tldSt3 (r : RepS) (st : Int) : tldSt 3 r st = st := tldSt_acc r st (by decide)
theorem tldSt4 (r : RepS) (st : Int) : tldSt 4 r st = st := tldSt_acc r st (by decide)
theorem tldSt7 (r : RepS) (st : Int) : tldSt 7 r st = st := tldSt_acc r st (by decide)
theorem tldGot3 (r : RepS) (got : Int) : tldGot 3 r got = if r.code = 0 then got + 1 else got := by
  unfold tldGot
  by_cases h : r.code = 0
  · rw [if_pos ⟨rfl, h⟩, if_pos h]
  · rw [if_neg (fun e => h e.2), if_neg h]

set_option maxHeartbeats 8000000 in
theorem driverTold_any (tx stamp tries : Int) (A1 : Option Addr) (c1 : Nat) (l : List OpS) (A2 : Option Addr) (c2 : Nat) (told : List RepS) (W : World) (hG : Glob W) (hB : 3 ≤ W.heap.size)
    (hc1 : l.length ≤ c1) (hA1 : A1 = none ∨ ∃ b off, A1 = some ⟨b, off, none⟩) (hr1 : Row W A1 l.length 4 (opRow l)) (hl1 : l.length ≤ 9223372036854775807)
    (hc2 : told.length ≤ c2) (hr2 : Row W A2 told.length 4 (repRow told)) (hl2 : told.length ≤ 9223372036854775807) (hs2 : ∀ r ∈ told, r.v.size ≤ 281474976710656) :
    Calls Tryd.prog 3 #[.int .i64 tx, .int .i64 stamp, .int .i64 tries, .slice A1 l.length c1, .slice A2 told.length c2] W fun e w' => e = .returned (.bool true) ∧ Below W.heap.size W w' := by
  have HG := Lib.hid hG
  have HR1 := Lib.hid hr1
  have HR2 := Lib.hid hr2
  have HS2 := Lib.hid hs2
  have HA1 := Lib.hid hA1
  clear hG hr1 hr2 hs2 hA1
  go_enter Tryd.func3, Tryd.ntmps3
  go_wp2_with fail
  refine (fixed_any _ HG.out hB).mono ?_
  rintro e w1 ⟨rfl, hb1⟩
  have HB := Lib.hid hb1
  clear hb1
  go_wp2_with fail
  refine (few_any A1 c1 l w1 hc1 (HR1.out.below HB.out) hl1).mono ?_
  rintro e w2 ⟨rfl, hb⟩
  have HB := Lib.hid (HB.out.trans (hb.mono HB.out.size))
  clear hb
  cases hfew : fewB l with
  | false =>
    clear hfew
    go_wp2_with fail
    go_ret
    exact ⟨rfl, HB.out⟩
  | true =>
  clear hfew
  by_cases h200 : 200 < told.length
  · go_wp2_with fail
    go_ret
    exact ⟨rfl, HB.out⟩
  go_wp2_with fail
  refine (routeNew_ok (some ⟨w2.heap.size, 0, none⟩) 2 bc _ (by decide) (.inr ⟨_, _, rfl⟩) (Row.of_blk (Blk.new _ _ _) rfl rfl) bc_ok).mono ?_
  rintro e w3 ⟨⟨gm, rfl, hm⟩, hb⟩
  have HM : Hid (IsMap w3 W.heap.size gm bc) := hm.lower (Nat.le_trans HB.out.size (by simp))
  have HB := Lib.hid ((HB.out.alloc HB.out.size _).trans (hb.mono (Nat.le_trans HB.out.size (by simp))))
  clear hm hb
  by_cases hn : newCode tx stamp tries l = 0
  case neg =>
    have HN := Lib.hid hn
    clear hn
    go_wp2_with fail
    refine (new_bad tx stamp tries ⟨gm, 0, none⟩ A1 c1 l w3 hc1 (HR1.out.below HB.out) hl1 HN.out).mono ?_
    rintro e w4 ⟨rfl, hb⟩
    have HB := Lib.hid (HB.out.trans (hb.mono HB.out.size))
    clear hb
    have hn := HN.out
    have hL := lawRight_any tx stamp tries A1 c1 l w4 hc1 (HR1.out.below HB.out) hl1
    generalize newCode tx stamp tries l = nc at hn hL
    go_wp2_with fail
    refine hL.mono ?_
    rintro e w5 ⟨rfl, hb⟩
    have HB := Lib.hid (HB.out.trans (hb.mono HB.out.size))
    clear hb
    go_wp2_with fail
    go_ret
    exact ⟨by simp, HB.out⟩
  go_wp2_with fail
  refine (new_ok tx stamp tries gm W.heap.size bc A1 c1 l w3 hc1 HA1.out (HR1.out.below HB.out) HM.out HB.out.size hn).mono ?_
  rintro e w4 ⟨⟨g, L, rfl, hd, hf⟩, hb⟩
  obtain ⟨s0, hs0⟩ : ∃ s0, s0 = DS.start tx stamp tries bc l := ⟨_, rfl⟩
  have hI : DInv (DS.start tx stamp tries bc l) := DInv.start hn bc_ok
  rw [← hs0] at hd hI
  have hok := newCode_ok hn
  have hR : Run W w4 g L s0 := ⟨hd, HB.out.trans (hb.mono HB.out.size), fun k hk => Nat.le_trans HB.out.size (hf k hk), HG.out, hB, hI⟩
  have h00 : s0.attempt = 0 ∧ s0.phase = 0 ∧ s0.results = [] ∧ s0.stamp = stamp ∧ s0.plan = l := by rw [hs0]; exact ⟨rfl, rfl, rfl, rfl, rfl⟩
  have hJ : JJ s0 0 0 0 := .inl ⟨h00.1, fun _ => rfl, fun _ => by rw [h00.2.2.1]; rfl, fun h => absurd (h00.2.1.symm.trans h) (by decide), fun h => by have := h00.2.1; omega⟩
  have HR := Lib.hid hR
  have HJ := Lib.hid hJ
  have HS : Hid (s0.stamp = stamp ∧ s0.plan = l) := h00.2.2.2
  clear hd hf hb hI hR hJ h00 HM hn hs0
  go_wp2_with fail
  go_loopw [10, 15, 16, 17, 59] (fun vr va vg vs vi wr => ∃ (k : Nat) (a got st : Int) (s : DS) (L : DL), k ≤ told.length ∧ va = .int .i64 a ∧ vg = .int .i64 got ∧ vs = .int .i64 st ∧ vi = .int .i64 k ∧ Hid (Run W wr g L s) ∧ Hid (JJ s a got st) ∧ Hid (s.stamp = stamp ∧ s.plan = l)) (fun _ _ _ _ vi _ => told.length - (intOf vi).toNat)
  case atStart => exact ⟨0, 0, 0, 0, s0, L, Nat.zero_le _, rfl, rfl, rfl, rfl, HR.out, HJ.out, HS.out⟩
  case round =>
    obtain ⟨k, a, got, st, s, L, hk, rfl, rfl, rfl, rfl, HR, HJ, HS⟩ := hrel
    by_cases hlt : k < told.length
    · obtain ⟨ad, hA, q0, q1, q2, q3⟩ := (HR2.out.below HR.out.bel).rep k _ (repD_at hlt)
      subst hA
      have hrv : (repD told k).v.size ≤ 281474976710656 := HS2.out _ (List.mem_of_getElem? (repD_at hlt))
      obtain ⟨r, hr⟩ : ∃ r, r = repD told k := ⟨_, rfl⟩
      rw [← hr] at q0 q1 q2 q3 hrv
      clear hr
      have hbl := World.block_lt_of_cell? _ _ q0
      obtain ⟨sh, cm, ok, hn⟩ : ∃ sh cm ok, s.next = (sh, cm, ok) := ⟨_, _, _, rfl⟩
      obtain ⟨kd, tx', at', sm, op', key', val', mode', yes'⟩ := cm
      have HN := Lib.hid hn
      clear hn
      go_wp2_with fail
      refine (run_next_ (HR.out.alloc _) HN.out).mono ?_
      rintro e w5 ⟨rfl, hR, hK⟩
      have B1 := Lib.hid (hK _ _ _ (by decide) (by decide) (by decide) (Blk.new wr 36 #[.int .i64 r.code, .int .i64 r.state, .string r.v, .bool r.h]))
      have HR := Lib.hid hR
      clear hR hK q0 q1 q2 q3 hbl
      have q0 : w5.cell? ⟨wr.heap.size, 0, none⟩ = some (.int .i64 r.code) := B1.out.at_ 0 _ rfl
      have q1 : w5.cell? ⟨wr.heap.size, 1, none⟩ = some (.int .i64 r.state) := B1.out.at_ 1 _ rfl
      have q2 : w5.cell? ⟨wr.heap.size, 2, none⟩ = some (.string r.v) := B1.out.at_ 2 _ rfl
      have q3 : w5.cell? ⟨wr.heap.size, 3, none⟩ = some (.bool r.h) := B1.out.at_ 3 _ rfl
      have qlt := B1.out.lt
      by_cases h8 : s.phase = 8
      · have hok : ok = false := by
          have := next_some s HR.out.inv
          rw [HN.out] at this
          dsimp only at this
          rw [this]; simp [h8]
        subst hok
        have hJ : JA s a got st := by
          rcases HJ.out with h | h
          · exact h
          · have := h.1; omega
        obtain ⟨hf1, hf2⟩ := hJ.fin (.inr h8)
        have hst : s.state = st := by unfold DS.state; rw [if_pos h8]; exact hf1.symm
        have HST := Lib.hid hst
        clear hst hf1 hJ h8
        go_wp2_with fail
        refine (run_state_ (HR.out.alloc _) HST.out).mono ?_
        rintro e w6 ⟨rfl, hR, hK⟩
        have HR := Lib.hid hR
        have h2 : 2 ≤ st := by omega
        clear hR hK hf2
        go_wp2_with fail
        go_ret
        exact ⟨by simp, HR.out.bel⟩
      obtain ⟨rfl, hcase⟩ := tld_round HR.out.inv h8 HJ.out HN.out
      have H8 := Lib.hid h8
      have p1 := HR.out.inv.att0
      have p2 := HR.out.inv.att1
      have p3 := HR.out.inv.tries1
      have p4 := HR.out.inv.res16
      have hsp := HS.out
      obtain ⟨hsp1, hsp2⟩ := hsp
      rcases hcase with ⟨ea, ek, es, em, hJ⟩ | ⟨ea, hJ, hcase⟩
      · subst ea ek es
        have em' : sm = stamp := em.trans hsp1
        have HSP := Lib.hid (And.intro hsp1 hsp2)
        clear hsp1 hsp2 em
        subst em'
        have hja := hJ.att
        as_aux_lemma =>
          have hJT : JJ (s.told r) (a + 1) (tldGot 1 r 0) (tldSt 1 r 0) := by
            have := JA.told HR.out.inv H8.out hJ r
            rw [HN.out] at this
            exact this
          have HJT := Lib.hid hJT
          clear hJT hJ
          go_wp2_with fail
          refine (run_told_ (HR.out.alloc _) HN.out r H8.out hrv).mono ?_
          rintro e w6 ⟨rfl, ⟨L', hR⟩, hK⟩
          have B2 := Lib.hid (hK _ _ _ (by decide) (by decide) (by decide) (Blk.new w5 38 #[.int .i64 1, .int .i64 tx', .int .i64 (a + 1), .int .i64 sm, .int .i64 op', .string key', .string val', .int .i64 mode', .bool yes']))
          have B1' := Lib.hid (hK _ _ _ (by decide) (by decide) (by decide) (B1.out.alloc _))
          have HR' := Lib.hid hR
          clear hR hK q0 q1 q2 q3 qlt HR
          have q0 : w6.cell? ⟨wr.heap.size, 0, none⟩ = some (.int .i64 r.code) := B1'.out.at_ 0 _ rfl
          have q1 : w6.cell? ⟨wr.heap.size, 1, none⟩ = some (.int .i64 r.state) := B1'.out.at_ 1 _ rfl
          have qlt := B1'.out.lt
          have z0 : w6.cell? ⟨w5.heap.size, 0, none⟩ = some (.int .i64 1) := B2.out.at_ 0 _ rfl
          have zlt := B2.out.lt
          have hs' : (s.told r).stamp = _ ∧ (s.told r).plan = _ := ⟨(s.told_same r).1.trans HSP.out.1, (s.told_same r).2.1.trans HSP.out.2⟩
          have HS' := Lib.hid hs'
          clear hs'
          go_wp2
          all_goals
            go_roundw
            case measure => simp [intOf]; omega
            case rel =>
              refine ⟨k + 1, (a + 1), _, _, s.told r, L', by omega, rfl, rfl, rfl, by go_num, HR'.out, ?_, HS'.out⟩
              refine Lib.hid (HJT.out.cast ?_ ?_)
              · rw [tldGot_other _ _ (by decide)]; try simp only [beq_iff_eq, beq_eq_false_iff_ne, ne_eq] at *; repeat' split
                all_goals first | rfl | omega
              · rw [tldSt1]; try simp only [beq_iff_eq, beq_eq_false_iff_ne, ne_eq] at *; repeat' split
                all_goals first | rfl | omega
      · subst ea
        have hja := hJ.att
        rcases hcase with ⟨ek, em⟩ | ek | ⟨ek, eg⟩ | ek | ⟨ek, eg⟩ | ek | ⟨ek, es, ey⟩ | ⟨ek, es, ey⟩ | ek
        · subst ek
          have em' : sm = stamp := em.trans hsp1
          have HSP := Lib.hid (And.intro hsp1 hsp2)
          clear hsp1 hsp2 em
          subst em'
          as_aux_lemma =>
            have hJT : JJ (s.told r) at' (tldGot 1 r got) (tldSt 1 r st) := by
              have := JA.told HR.out.inv H8.out hJ r
              rw [HN.out] at this
              exact this
            have HJT := Lib.hid hJT
            clear hJT hJ
            go_wp2_with fail
            refine (run_told_ (HR.out.alloc _) HN.out r H8.out hrv).mono ?_
            rintro e w6 ⟨rfl, ⟨L', hR⟩, hK⟩
            have B2 := Lib.hid (hK _ _ _ (by decide) (by decide) (by decide) (Blk.new w5 38 #[.int .i64 1, .int .i64 tx', .int .i64 at', .int .i64 sm, .int .i64 op', .string key', .string val', .int .i64 mode', .bool yes']))
            have B1' := Lib.hid (hK _ _ _ (by decide) (by decide) (by decide) (B1.out.alloc _))
            have HR' := Lib.hid hR
            clear hR hK q0 q1 q2 q3 qlt HR
            have q0 : w6.cell? ⟨wr.heap.size, 0, none⟩ = some (.int .i64 r.code) := B1'.out.at_ 0 _ rfl
            have q1 : w6.cell? ⟨wr.heap.size, 1, none⟩ = some (.int .i64 r.state) := B1'.out.at_ 1 _ rfl
            have qlt := B1'.out.lt
            have z0 : w6.cell? ⟨w5.heap.size, 0, none⟩ = some (.int .i64 1) := B2.out.at_ 0 _ rfl
            have zlt := B2.out.lt
            have hs' : (s.told r).stamp = _ ∧ (s.told r).plan = _ := ⟨(s.told_same r).1.trans HSP.out.1, (s.told_same r).2.1.trans HSP.out.2⟩
            have HS' := Lib.hid hs'
            clear hs'
            go_wp2
            all_goals
              go_roundw
              case measure => simp [intOf]; omega
              case rel =>
                refine ⟨k + 1, at', _, _, s.told r, L', by omega, rfl, rfl, rfl, by go_num, HR'.out, ?_, HS'.out⟩
                refine Lib.hid (HJT.out.cast ?_ ?_)
                · rw [tldGot_other _ _ (by decide)]; try simp only [beq_iff_eq, beq_eq_false_iff_ne, ne_eq] at *; repeat' split
                  all_goals first | rfl | omega
                · rw [tldSt1]; try simp only [beq_iff_eq, beq_eq_false_iff_ne, ne_eq] at *; repeat' split
                  all_goals first | rfl | omega
        · subst ek
          have HSP := Lib.hid (And.intro hsp1 hsp2)
          clear hsp1 hsp2
          as_aux_lemma =>
            have hJT : JJ (s.told r) at' (tldGot 2 r got) (tldSt 2 r st) := by
              have := JA.told HR.out.inv H8.out hJ r
              rw [HN.out] at this
              exact this
            have HJT := Lib.hid hJT
            clear hJT hJ
            go_wp2_with fail
            refine (run_told_ (HR.out.alloc _) HN.out r H8.out hrv).mono ?_
            rintro e w6 ⟨rfl, ⟨L', hR⟩, hK⟩
            have B2 := Lib.hid (hK _ _ _ (by decide) (by decide) (by decide) (Blk.new w5 38 #[.int .i64 2, .int .i64 tx', .int .i64 at', .int .i64 sm, .int .i64 op', .string key', .string val', .int .i64 mode', .bool yes']))
            have B1' := Lib.hid (hK _ _ _ (by decide) (by decide) (by decide) (B1.out.alloc _))
            have HR' := Lib.hid hR
            clear hR hK q0 q1 q2 q3 qlt HR
            have q0 : w6.cell? ⟨wr.heap.size, 0, none⟩ = some (.int .i64 r.code) := B1'.out.at_ 0 _ rfl
            have q1 : w6.cell? ⟨wr.heap.size, 1, none⟩ = some (.int .i64 r.state) := B1'.out.at_ 1 _ rfl
            have qlt := B1'.out.lt
            have z0 : w6.cell? ⟨w5.heap.size, 0, none⟩ = some (.int .i64 2) := B2.out.at_ 0 _ rfl
            have zlt := B2.out.lt
            have hs' : (s.told r).stamp = _ ∧ (s.told r).plan = _ := ⟨(s.told_same r).1.trans HSP.out.1, (s.told_same r).2.1.trans HSP.out.2⟩
            have HS' := Lib.hid hs'
            clear hs'
            go_wp2
            all_goals
              go_roundw
              case measure => simp [intOf]; omega
              case rel =>
                refine ⟨k + 1, at', _, _, s.told r, L', by omega, rfl, rfl, rfl, by go_num, HR'.out, ?_, HS'.out⟩
                refine Lib.hid (HJT.out.cast ?_ ?_)
                · rw [tldGot_other _ _ (by decide)]; try simp only [beq_iff_eq, beq_eq_false_iff_ne, ne_eq] at *; repeat' split
                  all_goals first | rfl | omega
                · rw [tldSt2]; try simp only [beq_iff_eq, beq_eq_false_iff_ne, ne_eq] at *; repeat' split
                  all_goals first | rfl | omega
        · subst ek
          have HSP := Lib.hid (And.intro hsp1 hsp2)
          clear hsp1 hsp2
          as_aux_lemma =>
            have hJT : JJ (s.told r) at' (tldGot 3 r got) (tldSt 3 r st) := by
              have := JA.told HR.out.inv H8.out hJ r
              rw [HN.out] at this
              exact this
            have HJT := Lib.hid hJT
            clear hJT hJ
            go_wp2_with fail
            refine (run_told_ (HR.out.alloc _) HN.out r H8.out hrv).mono ?_
            rintro e w6 ⟨rfl, ⟨L', hR⟩, hK⟩
            have B2 := Lib.hid (hK _ _ _ (by decide) (by decide) (by decide) (Blk.new w5 38 #[.int .i64 3, .int .i64 tx', .int .i64 at', .int .i64 sm, .int .i64 op', .string key', .string val', .int .i64 mode', .bool yes']))
            have B1' := Lib.hid (hK _ _ _ (by decide) (by decide) (by decide) (B1.out.alloc _))
            have HR' := Lib.hid hR
            clear hR hK q0 q1 q2 q3 qlt HR
            have q0 : w6.cell? ⟨wr.heap.size, 0, none⟩ = some (.int .i64 r.code) := B1'.out.at_ 0 _ rfl
            have q1 : w6.cell? ⟨wr.heap.size, 1, none⟩ = some (.int .i64 r.state) := B1'.out.at_ 1 _ rfl
            have qlt := B1'.out.lt
            have z0 : w6.cell? ⟨w5.heap.size, 0, none⟩ = some (.int .i64 3) := B2.out.at_ 0 _ rfl
            have zlt := B2.out.lt
            have hs' : (s.told r).stamp = _ ∧ (s.told r).plan = _ := ⟨(s.told_same r).1.trans HSP.out.1, (s.told_same r).2.1.trans HSP.out.2⟩
            have HS' := Lib.hid hs'
            clear hs'
            go_wp2
            all_goals
              go_roundw
              case measure => simp [intOf]; omega
              case rel =>
                refine ⟨k + 1, at', _, _, s.told r, L', by omega, rfl, rfl, rfl, by go_num, HR'.out, ?_, HS'.out⟩
                refine Lib.hid (HJT.out.cast ?_ ?_)
                · rw [tldGot3]; try simp only [beq_iff_eq, beq_eq_false_iff_ne, ne_eq] at *; repeat' split
                  all_goals first | rfl | omega
                · rw [tldSt3]; try simp only [beq_iff_eq, beq_eq_false_iff_ne, ne_eq] at *; repeat' split
                  all_goals first | rfl | omega
        · subst ek
          have HSP := Lib.hid (And.intro hsp1 hsp2)
          clear hsp1 hsp2
          as_aux_lemma =>
            have hJT : JJ (s.told r) at' (tldGot 4 r got) (tldSt 4 r st) := by
              have := JA.told HR.out.inv H8.out hJ r
              rw [HN.out] at this
              exact this
            have HJT := Lib.hid hJT
            clear hJT hJ
            go_wp2_with fail
            refine (run_told_ (HR.out.alloc _) HN.out r H8.out hrv).mono ?_
            rintro e w6 ⟨rfl, ⟨L', hR⟩, hK⟩
            have B2 := Lib.hid (hK _ _ _ (by decide) (by decide) (by decide) (Blk.new w5 38 #[.int .i64 4, .int .i64 tx', .int .i64 at', .int .i64 sm, .int .i64 op', .string key', .string val', .int .i64 mode', .bool yes']))
            have B1' := Lib.hid (hK _ _ _ (by decide) (by decide) (by decide) (B1.out.alloc _))
            have HR' := Lib.hid hR
            clear hR hK q0 q1 q2 q3 qlt HR
            have q0 : w6.cell? ⟨wr.heap.size, 0, none⟩ = some (.int .i64 r.code) := B1'.out.at_ 0 _ rfl
            have q1 : w6.cell? ⟨wr.heap.size, 1, none⟩ = some (.int .i64 r.state) := B1'.out.at_ 1 _ rfl
            have qlt := B1'.out.lt
            have z0 : w6.cell? ⟨w5.heap.size, 0, none⟩ = some (.int .i64 4) := B2.out.at_ 0 _ rfl
            have zlt := B2.out.lt
            have hs' : (s.told r).stamp = _ ∧ (s.told r).plan = _ := ⟨(s.told_same r).1.trans HSP.out.1, (s.told_same r).2.1.trans HSP.out.2⟩
            have HS' := Lib.hid hs'
            clear hs'
            go_wp2
            all_goals
              go_roundw
              case measure => simp [intOf]; omega
              case rel =>
                refine ⟨k + 1, at', _, _, s.told r, L', by omega, rfl, rfl, rfl, by go_num, HR'.out, ?_, HS'.out⟩
                refine Lib.hid (HJT.out.cast ?_ ?_)
                · rw [tldGot_other _ _ (by decide)]; try simp only [beq_iff_eq, beq_eq_false_iff_ne, ne_eq] at *; repeat' split
                  all_goals first | rfl | omega
                · rw [tldSt4]; try simp only [beq_iff_eq, beq_eq_false_iff_ne, ne_eq] at *; repeat' split
                  all_goals first | rfl | omega
        · subst ek
          rw [hsp2] at eg
          subst eg
          have HSP := Lib.hid (And.intro hsp1 hsp2)
          clear hsp1 hsp2
          as_aux_lemma =>
            have hJT : JJ (s.told r) at' (tldGot 5 r l.length) (tldSt 5 r st) := by
              have := JA.told HR.out.inv H8.out hJ r
              rw [HN.out] at this
              exact this
            have HJT := Lib.hid hJT
            clear hJT hJ
            go_wp2_with fail
            refine (run_told_ (HR.out.alloc _) HN.out r H8.out hrv).mono ?_
            rintro e w6 ⟨rfl, ⟨L', hR⟩, hK⟩
            have B2 := Lib.hid (hK _ _ _ (by decide) (by decide) (by decide) (Blk.new w5 38 #[.int .i64 5, .int .i64 tx', .int .i64 at', .int .i64 sm, .int .i64 op', .string key', .string val', .int .i64 mode', .bool yes']))
            have B1' := Lib.hid (hK _ _ _ (by decide) (by decide) (by decide) (B1.out.alloc _))
            have HR' := Lib.hid hR
            clear hR hK q0 q1 q2 q3 qlt HR
            have q0 : w6.cell? ⟨wr.heap.size, 0, none⟩ = some (.int .i64 r.code) := B1'.out.at_ 0 _ rfl
            have q1 : w6.cell? ⟨wr.heap.size, 1, none⟩ = some (.int .i64 r.state) := B1'.out.at_ 1 _ rfl
            have qlt := B1'.out.lt
            have z0 : w6.cell? ⟨w5.heap.size, 0, none⟩ = some (.int .i64 5) := B2.out.at_ 0 _ rfl
            have zlt := B2.out.lt
            have hs' : (s.told r).stamp = _ ∧ (s.told r).plan = _ := ⟨(s.told_same r).1.trans HSP.out.1, (s.told_same r).2.1.trans HSP.out.2⟩
            have HS' := Lib.hid hs'
            clear hs'
            go_wp2
            all_goals
              go_roundw
              case measure => simp [intOf]; omega
              case rel =>
                refine ⟨k + 1, at', _, _, s.told r, L', by omega, rfl, rfl, rfl, by go_num, HR'.out, ?_, HS'.out⟩
                refine Lib.hid (HJT.out.cast ?_ ?_)
                · rw [tldGot_other _ _ (by decide)]; try simp only [beq_iff_eq, beq_eq_false_iff_ne, ne_eq] at *; repeat' split
                  all_goals first | rfl | omega
                · rw [tldSt5]; try simp only [beq_iff_eq, beq_eq_false_iff_ne, ne_eq] at *; repeat' split
                  all_goals first | rfl | omega
        · subst ek
          have HSP := Lib.hid (And.intro hsp1 hsp2)
          clear hsp1 hsp2
          as_aux_lemma =>
            have hJT : JJ (s.told r) at' (tldGot 6 r got) (tldSt 6 r st) := by
              have := JA.told HR.out.inv H8.out hJ r
              rw [HN.out] at this
              exact this
            have HJT := Lib.hid hJT
            clear hJT hJ
            go_wp2_with fail
            refine (run_told_ (HR.out.alloc _) HN.out r H8.out hrv).mono ?_
            rintro e w6 ⟨rfl, ⟨L', hR⟩, hK⟩
            have B2 := Lib.hid (hK _ _ _ (by decide) (by decide) (by decide) (Blk.new w5 38 #[.int .i64 6, .int .i64 tx', .int .i64 at', .int .i64 sm, .int .i64 op', .string key', .string val', .int .i64 mode', .bool yes']))
            have B1' := Lib.hid (hK _ _ _ (by decide) (by decide) (by decide) (B1.out.alloc _))
            have HR' := Lib.hid hR
            clear hR hK q0 q1 q2 q3 qlt HR
            have q0 : w6.cell? ⟨wr.heap.size, 0, none⟩ = some (.int .i64 r.code) := B1'.out.at_ 0 _ rfl
            have q1 : w6.cell? ⟨wr.heap.size, 1, none⟩ = some (.int .i64 r.state) := B1'.out.at_ 1 _ rfl
            have qlt := B1'.out.lt
            have z0 : w6.cell? ⟨w5.heap.size, 0, none⟩ = some (.int .i64 6) := B2.out.at_ 0 _ rfl
            have zlt := B2.out.lt
            have hs' : (s.told r).stamp = _ ∧ (s.told r).plan = _ := ⟨(s.told_same r).1.trans HSP.out.1, (s.told_same r).2.1.trans HSP.out.2⟩
            have HS' := Lib.hid hs'
            clear hs'
            go_wp2
            all_goals
              go_roundw
              case measure => simp [intOf]; omega
              case rel =>
                refine ⟨k + 1, at', _, _, s.told r, L', by omega, rfl, rfl, rfl, by go_num, HR'.out, ?_, HS'.out⟩
                refine Lib.hid (HJT.out.cast ?_ ?_)
                · rw [tldGot_other _ _ (by decide)]; try simp only [beq_iff_eq, beq_eq_false_iff_ne, ne_eq] at *; repeat' split
                  all_goals first | rfl | omega
                · rw [tldSt6]; try simp only [beq_iff_eq, beq_eq_false_iff_ne, ne_eq] at *; repeat' split
                  all_goals first | rfl | omega
        · subst ek es ey
          have HSP := Lib.hid (And.intro hsp1 hsp2)
          clear hsp1 hsp2
          as_aux_lemma =>
            have hJT : JJ (s.told r) at' (tldGot 7 r got) (tldSt 7 r 2) := by
              have := JA.told HR.out.inv H8.out hJ r
              rw [HN.out] at this
              exact this
            have HJT := Lib.hid hJT
            clear hJT hJ
            go_wp2_with fail
            refine (run_told_ (HR.out.alloc _) HN.out r H8.out hrv).mono ?_
            rintro e w6 ⟨rfl, ⟨L', hR⟩, hK⟩
            have B2 := Lib.hid (hK _ _ _ (by decide) (by decide) (by decide) (Blk.new w5 38 #[.int .i64 7, .int .i64 tx', .int .i64 at', .int .i64 sm, .int .i64 op', .string key', .string val', .int .i64 mode', .bool true]))
            have B1' := Lib.hid (hK _ _ _ (by decide) (by decide) (by decide) (B1.out.alloc _))
            have HR' := Lib.hid hR
            clear hR hK q0 q1 q2 q3 qlt HR
            have q0 : w6.cell? ⟨wr.heap.size, 0, none⟩ = some (.int .i64 r.code) := B1'.out.at_ 0 _ rfl
            have q1 : w6.cell? ⟨wr.heap.size, 1, none⟩ = some (.int .i64 r.state) := B1'.out.at_ 1 _ rfl
            have qlt := B1'.out.lt
            have z0 : w6.cell? ⟨w5.heap.size, 0, none⟩ = some (.int .i64 7) := B2.out.at_ 0 _ rfl
            have zlt := B2.out.lt
            have hs' : (s.told r).stamp = _ ∧ (s.told r).plan = _ := ⟨(s.told_same r).1.trans HSP.out.1, (s.told_same r).2.1.trans HSP.out.2⟩
            have HS' := Lib.hid hs'
            clear hs'
            go_wp2
            all_goals
              go_roundw
              case measure => simp [intOf]; omega
              case rel =>
                refine ⟨k + 1, at', _, _, s.told r, L', by omega, rfl, rfl, rfl, by go_num, HR'.out, ?_, HS'.out⟩
                refine Lib.hid (HJT.out.cast ?_ ?_)
                · rw [tldGot_other _ _ (by decide)]; try simp only [beq_iff_eq, beq_eq_false_iff_ne, ne_eq] at *; repeat' split
                  all_goals first | rfl | omega
                · rw [tldSt7]; try simp only [beq_iff_eq, beq_eq_false_iff_ne, ne_eq] at *; repeat' split
                  all_goals first | rfl | omega
        · subst ek es ey
          have HSP := Lib.hid (And.intro hsp1 hsp2)
          clear hsp1 hsp2
          as_aux_lemma =>
            have hJT : JJ (s.told r) at' (tldGot 7 r got) (tldSt 7 r 3) := by
              have := JA.told HR.out.inv H8.out hJ r
              rw [HN.out] at this
              exact this
            have HJT := Lib.hid hJT
            clear hJT hJ
            go_wp2_with fail
            refine (run_told_ (HR.out.alloc _) HN.out r H8.out hrv).mono ?_
            rintro e w6 ⟨rfl, ⟨L', hR⟩, hK⟩
            have B2 := Lib.hid (hK _ _ _ (by decide) (by decide) (by decide) (Blk.new w5 38 #[.int .i64 7, .int .i64 tx', .int .i64 at', .int .i64 sm, .int .i64 op', .string key', .string val', .int .i64 mode', .bool false]))
            have B1' := Lib.hid (hK _ _ _ (by decide) (by decide) (by decide) (B1.out.alloc _))
            have HR' := Lib.hid hR
            clear hR hK q0 q1 q2 q3 qlt HR
            have q0 : w6.cell? ⟨wr.heap.size, 0, none⟩ = some (.int .i64 r.code) := B1'.out.at_ 0 _ rfl
            have q1 : w6.cell? ⟨wr.heap.size, 1, none⟩ = some (.int .i64 r.state) := B1'.out.at_ 1 _ rfl
            have qlt := B1'.out.lt
            have z0 : w6.cell? ⟨w5.heap.size, 0, none⟩ = some (.int .i64 7) := B2.out.at_ 0 _ rfl
            have zlt := B2.out.lt
            have hs' : (s.told r).stamp = _ ∧ (s.told r).plan = _ := ⟨(s.told_same r).1.trans HSP.out.1, (s.told_same r).2.1.trans HSP.out.2⟩
            have HS' := Lib.hid hs'
            clear hs'
            go_wp2
            all_goals
              go_roundw
              case measure => simp [intOf]; omega
              case rel =>
                refine ⟨k + 1, at', _, _, s.told r, L', by omega, rfl, rfl, rfl, by go_num, HR'.out, ?_, HS'.out⟩
                refine Lib.hid (HJT.out.cast ?_ ?_)
                · rw [tldGot_other _ _ (by decide)]; try simp only [beq_iff_eq, beq_eq_false_iff_ne, ne_eq] at *; repeat' split
                  all_goals first | rfl | omega
                · rw [tldSt7]; try simp only [beq_iff_eq, beq_eq_false_iff_ne, ne_eq] at *; repeat' split
                  all_goals first | rfl | omega
        · subst ek
          have HSP := Lib.hid (And.intro hsp1 hsp2)
          clear hsp1 hsp2
          as_aux_lemma =>
            have hJT : JJ (s.told r) at' (tldGot 8 r got) (tldSt 8 r st) := by
              have := JA.told HR.out.inv H8.out hJ r
              rw [HN.out] at this
              exact this
            have HJT := Lib.hid hJT
            clear hJT hJ
            go_wp2_with fail
            refine (run_told_ (HR.out.alloc _) HN.out r H8.out hrv).mono ?_
            rintro e w6 ⟨rfl, ⟨L', hR⟩, hK⟩
            have B2 := Lib.hid (hK _ _ _ (by decide) (by decide) (by decide) (Blk.new w5 38 #[.int .i64 8, .int .i64 tx', .int .i64 at', .int .i64 sm, .int .i64 op', .string key', .string val', .int .i64 mode', .bool yes']))
            have B1' := Lib.hid (hK _ _ _ (by decide) (by decide) (by decide) (B1.out.alloc _))
            have HR' := Lib.hid hR
            clear hR hK q0 q1 q2 q3 qlt HR
            have q0 : w6.cell? ⟨wr.heap.size, 0, none⟩ = some (.int .i64 r.code) := B1'.out.at_ 0 _ rfl
            have q1 : w6.cell? ⟨wr.heap.size, 1, none⟩ = some (.int .i64 r.state) := B1'.out.at_ 1 _ rfl
            have qlt := B1'.out.lt
            have z0 : w6.cell? ⟨w5.heap.size, 0, none⟩ = some (.int .i64 8) := B2.out.at_ 0 _ rfl
            have zlt := B2.out.lt
            have hs' : (s.told r).stamp = _ ∧ (s.told r).plan = _ := ⟨(s.told_same r).1.trans HSP.out.1, (s.told_same r).2.1.trans HSP.out.2⟩
            have HS' := Lib.hid hs'
            clear hs'
            go_wp2
            all_goals
              go_roundw
              case measure => simp [intOf]; omega
              case rel =>
                refine ⟨k + 1, at', _, _, s.told r, L', by omega, rfl, rfl, rfl, by go_num, HR'.out, ?_, HS'.out⟩
                refine Lib.hid (HJT.out.cast ?_ ?_)
                · rw [tldGot_other _ _ (by decide)]; try simp only [beq_iff_eq, beq_eq_false_iff_ne, ne_eq] at *; repeat' split
                  all_goals first | rfl | omega
                · rw [tldSt8]; try simp only [beq_iff_eq, beq_eq_false_iff_ne, ne_eq] at *; repeat' split
                  all_goals first | rfl | omega
    · obtain rfl : k = told.length := by omega
      go_wp2_with fail
      go_ret
      exact ⟨rfl, HR.out.bel⟩
end Go.Proofs.YtheecdjpbfkpdaaDoor
