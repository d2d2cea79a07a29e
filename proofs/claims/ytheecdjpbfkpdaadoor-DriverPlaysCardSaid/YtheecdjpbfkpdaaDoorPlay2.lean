/-
  Walk: the law DriverPlays.
-/
import Derived.Test.YtheecdjpbfkpdaaDoorPlay1
namespace Go.Proofs.YtheecdjpbfkpdaaDoor
open Go.RowKit
set_option maxRecDepth 100000
set_option linter.unusedSimpArgs false
set_option linter.unusedVariables false

structure AnsS where
  odd : Bool
  r : RepS
def ansCells (a : AnsS) : List Value := [.bool a.odd, .int .i64 a.r.code, .int .i64 a.r.state, .string a.r.v, .bool a.r.h]
def ansRow (l : List AnsS) : List Value := l.flatMap ansCells
def ansD (l : List AnsS) (k : Nat) : AnsS := l.getD k ⟨false, 0, 0, ⟨#[]⟩, false⟩
theorem ansD_at {l : List AnsS} {k : Nat} (h : k < l.length) : l[k]? = some (ansD l k) := by
  unfold ansD; rw [List.getD_eq_getElem?_getD, List.getElem?_eq_getElem h]; rfl
theorem Row.ans {w : World} {A : Option Addr} {l : List AnsS} (h : Row w A l.length 5 (ansRow l)) (i : Nat) (o : AnsS) (ho : l[i]? = some o) :
    ∃ ad, A = some ad ∧ w.cell? (ad.add (i * 5)) = some (.bool o.odd) ∧ w.cell? ⟨(ad.add (i * 5)).block, (ad.add (i * 5)).off + 1, none⟩ = some (.int .i64 o.r.code) ∧ w.cell? ⟨(ad.add (i * 5)).block, (ad.add (i * 5)).off + 2, none⟩ = some (.int .i64 o.r.state) ∧ w.cell? ⟨(ad.add (i * 5)).block, (ad.add (i * 5)).off + 3, none⟩ = some (.string o.r.v) ∧ w.cell? ⟨(ad.add (i * 5)).block, (ad.add (i * 5)).off + 4, none⟩ = some (.bool o.r.h) := by
  have hi : i < l.length := (List.getElem?_eq_some_iff.1 ho).1
  obtain ⟨ad, e, hc⟩ := h.2 (by omega)
  have hg := fun j (hj : j < 5) => flat_get ansCells 5 (fun _ => rfl) l i j o ho hj
  refine ⟨ad, e, hc (i * 5) _ (by have := hg 0 (by omega); rw [Nat.add_zero] at this; exact this), ?_, ?_, ?_, ?_⟩
  · rw [← add_at ad (i * 5) 1 (by omega)]; exact hc _ _ (hg 1 (by omega))
  · rw [← add_at ad (i * 5) 2 (by omega)]; exact hc _ _ (hg 2 (by omega))
  · rw [← add_at ad (i * 5) 3 (by omega)]; exact hc _ _ (hg 3 (by omega))
  · rw [← add_at ad (i * 5) 4 (by omega)]; exact hc _ _ (hg 4 (by omega))

/-- Over, and not committed: nothing is told. -/
def OverRes (s : DS) : Prop := s.phase = 8 → s.outcome ≠ 2 → s.results = []
theorem OverRes.behind (s : DS) : OverRes s.behind := by
  unfold OverRes DS.behind
  split
  · rename_i h; exact fun _ h' => absurd h h'
  · split
    · exact fun _ _ => rfl
    · exact fun h => absurd (show (0 : Int) = 8 from h) (by decide)
theorem OverRes.ends (s : DS) (st : Int) : OverRes (s.ends st) := by
  unfold DS.ends
  split
  · exact OverRes.behind _
  · exact fun h => absurd (show (7 : Int) = 8 from h) (by decide)
theorem OverRes.begins (s : DS) (k : Int) : OverRes (s.begins k) := by
  unfold DS.begins
  split
  · exact fun h => absurd (show (5 : Int) = 8 from h) (by decide)
  · split
    · exact fun h => absurd (show (6 : Int) = 8 from h) (by decide)
    · exact fun h => absurd (show (1 : Int) = 8 from h) (by decide)
theorem OverRes.told {s : DS} (h : s.phase ≠ 8) (r : RepS) : OverRes (s.told r) := by
  have h0 : OverRes s := fun e => absurd e h
  unfold DS.told DS.accessed DS.homed DS.got
  repeat' split
  all_goals first
    | exact h0
    | exact OverRes.behind _
    | exact OverRes.ends _ _
    | exact OverRes.begins _ _
    | exact fun e => absurd e h
    | exact fun e => absurd (show (6 : Int) = 8 from e) (by decide)
    | exact fun e => absurd (show (2 : Int) = 8 from e) (by decide)
    | exact fun e => absurd (show (3 : Int) = 8 from e) (by decide)
    | exact fun e => absurd (show (4 : Int) = 8 from e) (by decide)
    | exact fun e => absurd (show (1 : Int) = 8 from e) (by decide)

section
variable {W w : World} {g g' : Nat} {L : DL} {M : RL} {s : DS} {t : RS}
theorem rel_bounds (hI : DInv s) (hr : RelD s t) (ht : s.tx ≤ 1048576) : t.plan.length ≤ 16 ∧ t.splits.length ≤ 7 ∧ 0 ≤ t.tx ∧ t.tx ≤ 1048576 ∧ 0 ≤ t.asks ∧ t.asks ≤ 8 ∧ (2 ≤ t.asks ∧ t.asks ≤ 4 → 0 ≤ t.i ∧ t.i < t.plan.length) ∧ (t.asks = 7 → 0 ≤ t.told ∧ t.told < t.touched.length) ∧ 0 ≤ t.attempt ∧ t.attempt ≤ 1048576 ∧ t.results.length ≤ 16 ∧ (s.phase ≠ 8 → 0 < t.asks) := by
  have p0 := hI.ph0
  have p8 := hI.ph8
  have a0 := hI.at0
  have t0 := hI.tx0
  have b0 := hI.att0
  have b1 := hI.att1
  have b2 := hI.tries1
  have ha := hr.asks
  have hp : t.plan = s.plan := hr.pln
  have hs : t.splits = s.splits := hr.spl
  have htx := hr.tx
  have hat := hr.att
  have hres := hr.res
  refine ⟨by rw [hp]; exact hI.pln16, by rw [hs]; exact hI.spl7, by omega, by omega, ?_, ?_, ?_, ?_, by omega, by omega, by rw [hres]; exact hI.res16, ?_⟩
  · rw [ha]; repeat' split
    all_goals omega
  · rw [ha]; repeat' split
    all_goals omega
  · intro h
    have h14 : 1 ≤ s.phase ∧ s.phase ≤ 4 := by
      rw [ha] at h
      repeat' split at h
      all_goals omega
    have hop := hI.ops (by
      rcases h14 with ⟨x, y⟩
      omega)
    rw [hr.i1 h14, hp]
    exact ⟨a0, hop⟩
  · intro h
    have h7 : s.phase = 7 := by
      rw [ha] at h
      repeat' split at h
      all_goals omega
    have hl := hr.left h7
    have htt : t.touched = s.touched := by unfold RS.touched; rw [hs, hp, hr.tou]
    rw [htt]
    exact hl.2
  · intro h
    rw [ha]; repeat' split
    all_goals omega
theorem both_next (h : Both W w g L s g' M t) {sh kd tx at' st op : Int} {key val : ByteArray} {mode : Int} {yes ok : Bool} (hn : s.next = (sh, ⟨kd, tx, at', st, op, key, val, mode, yes⟩, ok)) :
    Calls Tryd.prog 10 #[.pointer (some ⟨g, 0, none⟩)] w fun e w' => e = .returned (.tuple #[.int .i64 sh, .agg #[.int .i64 kd, .int .i64 tx, .int .i64 at', .int .i64 st, .int .i64 op, .string key, .string val, .int .i64 mode, .bool yes], .bool ok]) ∧ Below w.heap.size w w' := by
  have := next_any h.run.drv h.run.inv
  rw [hn] at this
  exact this
theorem both_rnext (h : Both W w g L s g' M t) (ht : s.tx ≤ 1048576) {sh kd tx at' st op : Int} {key val : ByteArray} {mode : Int} {yes ok : Bool} (hn : s.next = (sh, ⟨kd, tx, at', st, op, key, val, mode, yes⟩, ok)) :
    Calls Tryd.prog 15 #[.pointer (some ⟨g', 0, none⟩)] w fun e w' => e = .returned (.tuple #[.int .i64 sh, .agg #[.int .i64 kd, .int .i64 tx, .int .i64 at', .int .i64 st, .int .i64 op, .string key, .string val, .int .i64 mode, .bool yes], .bool ok]) ∧ Below w.heap.size w w' := by
  obtain ⟨h1, h2, h3, h4, h5, h6, h7, h8, _⟩ := rel_bounds h.run.inv h.rel ht
  have := refNext_any h.ref h1 h2 h3 h4 h5 h6 h7 h8
  rw [h.rel.next h.run.inv, hn] at this
  exact this
section
variable {W w : World} {g g' : Nat} {L : DL} {M : RL} {s : DS} {t : RS}
theorem both_state1 (h : Both W w g L s g' M t) : ∀ n, Calls Tryd.prog 11 #[.pointer (some ⟨g, 0, none⟩)] (w.drewN n) fun e w' => e = .returned (.int .i64 s.state) ∧ ∃ m, w' = (w.drewN n).drewN m :=
  fun n => state_any _ _ _ _ _ (h.drewN n).run.drv
theorem both_state2 (h : Both W w g L s g' M t) : ∀ n, Calls Tryd.prog 17 #[.pointer (some ⟨g', 0, none⟩)] (w.drewN n) fun e w' => e = .returned (.int .i64 s.state) ∧ ∃ m, w' = (w.drewN n).drewN m :=
  fun n => (refState_any (h.drewN n).ref).mono fun e w' ⟨h1, h2⟩ => ⟨by rw [h1, h.rel.state h.run.inv], 0, h2.symm⟩
theorem both_att (h : Both W w g L s g' M t) : ∀ n, Calls Tryd.prog 18 #[.pointer (some ⟨g, 0, none⟩)] (w.drewN n) fun e w' => e = .returned (.int .i64 s.attempt) ∧ ∃ m, w' = (w.drewN n).drewN m :=
  fun n => attempt_any _ _ _ _ _ (h.drewN n).run.drv
end
section
variable {W w : World} {g g' : Nat} {L : DL} {M : RL} {s : DS} {t : RS}
theorem tell_any2 {r : RepS} (hrel : RelD s t) (hI : DInv s) (ht : s.tx ≤ 1048576) (h8 : s.phase ≠ 8) (hR : Ref W w g' M t) (hrv : r.v.size ≤ 281474976710656) :
    Calls Tryd.prog 16 #[.pointer (some ⟨g', 0, none⟩), .agg #[.int .i64 r.code, .int .i64 r.state, .string r.v, .bool r.h]] w fun e w' => e = .returned (.tuple #[]) ∧ RPost W w g' M (t.tell r) w' := by
  obtain ⟨h1, h2, _, _, h5, h6, h7, h9, h10, h11, h12, h13⟩ := rel_bounds hI hrel ht
  exact refTell_any r hR h1 h2 h10 h11 (h13 h8) h6 h7 h9 h12 hrv
theorem told_tx (s : DS) (r : RepS) : (s.told r).tx = s.tx := (s.told_same r).2.2.1
end
theorem xor1 : ∀ n : Fin 64, bits .xor .i64 (n.val : Int) 1 ≠ (n.val : Int) := by decide
theorem xor_ne {x : Int} (h0 : 0 ≤ x) (h1 : x ≤ 60) : bits .xor .i64 x 1 ≠ x := by
  obtain ⟨n, rfl⟩ := Int.eq_ofNat_of_zero_le h0
  exact xor1 ⟨n, by omega⟩
theorem next_op {s : DS} {t : RS} (hI : DInv s) (hr : RelD s t) : 0 ≤ s.next.2.1.op ∧ s.next.2.1.op ≤ 60 := by
  have a0 := hI.at0
  have a1 := hI.at16
  have s7 := hI.spl7
  have hhd : s.phase = 7 → 0 ≤ s.left.headD 0 ∧ s.left.headD 0 ≤ 7 := fun e => by
    obtain ⟨l1, _, _⟩ := hr.left e
    have hne := hI.left1 e
    have hm : s.left.headD 0 ∈ s.left := by
      cases hl : s.left with
      | nil => exact absurd hl hne
      | cons x r => simp
    rw [l1] at hm
    have := hI.tou _ (List.mem_of_mem_drop hm)
    rw [← l1] at this
    omega
  unfold DS.next
  repeat' split
  all_goals first
    | (have := hhd (by assumption); exact this.imp id (by intro h; dsimp only; omega))
    | (show (0 : Int) ≤ 0 ∧ (0 : Int) ≤ 60; omega)
    | (dsimp only; omega)

set_option maxHeartbeats 8000000 in
theorem driverPlays_any (tx stamp tries : Int) (A0 : Option Addr) (c0 : Nat) (sp : List ByteArray) (A1 : Option Addr) (c1 : Nat) (l : List OpS) (A2 : Option Addr) (c2 : Nat) (told : List AnsS) (W : World) (hG : Glob W) (hB : 3 ≤ W.heap.size)
    (hc0 : sp.length ≤ c0) (hA0 : A0 = none ∨ ∃ b off, A0 = some ⟨b, off, none⟩) (hr0 : Row W A0 sp.length 1 (strRow sp)) (hl0 : sp.length ≤ 9223372036854775807)
    (hc1 : l.length ≤ c1) (hA1 : A1 = none ∨ ∃ b off, A1 = some ⟨b, off, none⟩) (hr1 : Row W A1 l.length 4 (opRow l)) (hl1 : l.length ≤ 9223372036854775807)
    (hc2 : told.length ≤ c2) (hr2 : Row W A2 told.length 5 (ansRow told)) (hl2 : told.length ≤ 9223372036854775807) :
    Calls Tryd.prog 4 #[.int .i64 tx, .int .i64 stamp, .int .i64 tries, .slice A0 sp.length c0, .slice A1 l.length c1, .slice A2 told.length c2] W fun e w' => e = .returned (.bool true) ∧ Below W.heap.size W w' := by
  have HG := Lib.hid hG
  have HR0 := Lib.hid hr0
  have HR1 := Lib.hid hr1
  have HR2 := Lib.hid hr2
  have HA0 := Lib.hid hA0
  have HA1 := Lib.hid hA1
  clear hG hr0 hr1 hr2 hA0 hA1
  go_enter Tryd.func4, Tryd.ntmps4
  go_wp2_with fail
  refine (fixed_any _ HG.out hB).mono ?_
  rintro e w1 ⟨rfl, hb1⟩
  have HB := Lib.hid hb1
  clear hb1
  go_wp2_with fail
  refine (few2_any A0 c0 sp A1 c1 l w1 hc0 (HR0.out.below HB.out) hl0 hc1 (HR1.out.below HB.out) hl1).mono ?_
  rintro e w2 ⟨b, rfl, hb⟩
  have HB := Lib.hid (HB.out.trans (hb.mono HB.out.size))
  clear hb
  cases b with
  | false =>
    go_wp2_with fail
    go_ret
    exact ⟨rfl, HB.out⟩
  | true =>
  by_cases h200 : 200 < told.length
  · go_wp2_with fail
    go_ret
    exact ⟨rfl, HB.out⟩
  go_wp2_with fail
  refine (refRoute_any A0 c0 sp w2 hc0 (HR0.out.below HB.out) hl0).mono ?_
  rintro e w3 ⟨rfl, n3, rfl⟩
  have HB := Lib.hid (below_drewN HB.out n3)
  generalize w2.drewN n3 = w3 at *
  by_cases hrr : routeRight sp = 0
  case neg =>
    have hrb : (routeRight sp == 0) = false := beq_eq_false_iff_ne.2 hrr
    have hrc : (routeRight sp != 0) = true := by simpa using hrr
    generalize routeRight sp = rr at *
    clear hrr
    go_wp2_with fail
    go_ret
    exact ⟨rfl, HB.out⟩
  have HRR := Lib.hid hrr
  rw [hrr]
  clear hrr
  go_wp2_with fail
  refine (routeNew_ok A0 c0 sp w3 hc0 HA0.out (HR0.out.below HB.out) HRR.out).mono ?_
  rintro e w4 ⟨⟨gm, rfl, hm⟩, hb⟩
  have HM : Hid (IsMap w4 W.heap.size gm sp) := hm.lower HB.out.size
  have HB := Lib.hid (HB.out.trans (hb.mono HB.out.size))
  clear hm hb
  by_cases hn : newCode tx stamp tries l = 0
  case neg =>
    have HN := Lib.hid hn
    clear hn
    go_wp2_with fail
    refine (new_bad tx stamp tries ⟨gm, 0, none⟩ A1 c1 l w4 hc1 (HR1.out.below HB.out) hl1 HN.out).mono ?_
    rintro e w5 ⟨rfl, hb⟩
    have HB := Lib.hid (HB.out.trans (hb.mono HB.out.size))
    clear hb
    have hn := HN.out
    have hL := lawRight_any tx stamp tries A1 c1 l w5 hc1 (HR1.out.below HB.out) hl1
    generalize newCode tx stamp tries l = nc at hn hL
    go_wp2_with fail
    refine hL.mono ?_
    rintro e w6 ⟨rfl, hb⟩
    have HB := Lib.hid (HB.out.trans (hb.mono HB.out.size))
    have hnb : (nc == 0) = false := beq_eq_false_iff_ne.2 hn
    have hnc : (nc != 0) = true := by simpa using hn
    clear hb hn hL
    go_wp2_with fail
    go_ret
    exact ⟨by simp, HB.out⟩
  go_wp2_with fail
  refine (new_ok tx stamp tries gm W.heap.size sp A1 c1 l w4 hc1 HA1.out (HR1.out.below HB.out) HM.out HB.out.size hn).mono ?_
  rintro e w5 ⟨⟨g, L, rfl, hd, hf⟩, hb⟩
  obtain ⟨s0, hs0⟩ : ∃ s0, s0 = DS.start tx stamp tries sp l := ⟨_, rfl⟩
  have hI : DInv (DS.start tx stamp tries sp l) := DInv.start hn HRR.out
  have hrel : RelD (DS.start tx stamp tries sp l) (RS.start tx stamp tries sp l) := RelD.start hn
  have hok := newCode_ok hn
  rw [← hs0] at hd hI hrel
  have hR : Run W w5 g L s0 := ⟨hd, HB.out.trans (hb.mono HB.out.size), fun k hk => Nat.le_trans HB.out.size (hf k hk), HG.out, hB, hI⟩
  have h00 : s0.tx = tx ∧ s0.stamp = stamp ∧ OverRes s0 := by
    rw [hs0]; exact ⟨rfl, rfl, fun e => absurd (show (0 : Int) = 8 from e) (by decide)⟩
  have HR := Lib.hid hR
  have HREL := Lib.hid hrel
  have HS := Lib.hid h00
  have HF : Hid (∀ k, foot g L k → w4.heap.size ≤ k ∧ k < w5.heap.size) := Lib.hid (fun k hk => ⟨hf k hk, hR.foot_lt hk⟩)
  have hL := lawRight_any tx stamp tries A1 c1 l w5 hc1 (HR1.out.below hR.bel) hl1
  rw [hn] at hL
  have HL := Lib.hid hL
  have htx : 0 ≤ tx ∧ tx ≤ 1048576 := ⟨hok.1, hok.2.1⟩
  have HTX := Lib.hid htx
  clear hd hf hb hI hR h00 hrel HM hn hs0 hL htx hok
  go_wp2_with fail
  refine HL.out.mono ?_
  rintro e w6 ⟨rfl, hb⟩
  have HR' := Lib.hid (HR.out.below hb)
  have HF' : Hid (∀ k, foot g L k → w4.heap.size ≤ k ∧ k < w6.heap.size) := Lib.hid (fun k hk => ⟨(HF.out k hk).1, Nat.lt_of_lt_of_le (HF.out k hk).2 hb.size⟩)
  clear hb HL HF HR
  go_wp2_with fail
  refine (refNew_any tx stamp tries A0 c0 sp A1 c1 l W w6 HR'.out.bel hc0 HR0.out hc1 HR1.out).mono ?_
  rintro e w7 ⟨⟨g', M, rfl, hf7, hrv, hg7⟩, hb⟩
  obtain ⟨t0, ht0⟩ : ∃ t0, t0 = RS.start tx stamp tries sp l := ⟨_, rfl⟩
  rw [← ht0] at hf7
  have hBoth : Both W w7 g L s0 g' M t0 := ⟨HR'.out.below hb, hf7, by rw [ht0]; exact HREL.out, fun k hx hy => by
    have h1 := (HF'.out k hx).2
    rcases hy with rfl | y
    · omega
    · rw [hrv] at y; cases y⟩
  have HBO := Lib.hid hBoth
  clear hBoth hf7 hrv hg7 hb HF' HR' ht0 HREL
  go_wp2_with fail
  go_loopw [12, 82] (fun s12 vi wr => ∃ (k : Nat) (s : DS) (L : DL) (t : RS) (M : RL), k ≤ told.length ∧ vi = .int .i64 k ∧ Hid (Both W wr g L s g' M t) ∧ Hid (s.tx = tx ∧ s.stamp = stamp ∧ OverRes s)) (fun _ vi _ => told.length - (intOf vi).toNat)
  case atStart => exact ⟨0, s0, L, t0, M, Nat.zero_le _, rfl, HBO.out, HS.out⟩
  case round =>
    clear HBO HS
    obtain ⟨k, s, L, t, M, hk, rfl, HBO, HS⟩ := hrel
    by_cases hlt : k < told.length
    · obtain ⟨ad, hA, q0, q1, q2, q3, q4⟩ := (HR2.out.below HBO.out.run.bel).ans k _ (ansD_at hlt)
      subst hA
      generalize ansD told k = an at q0 q1 q2 q3 q4
      obtain ⟨odd, r⟩ := an
      dsimp only at q0 q1 q2 q3 q4
      have hbl := World.block_lt_of_cell? _ _ q0
      obtain ⟨wo, rfl⟩ : ∃ wo : World, wo = wr := ⟨_, rfl⟩
      by_cases hrv : 100 < (r.v.size : Int)
      · go_wp2_with fail
        go_ret
        exact ⟨rfl, HBO.out.run.bel.alloc HBO.out.run.bel.size _⟩
      have hrv2 : r.v.size ≤ 281474976710656 := by omega
      obtain ⟨sh, cm, ok, hn⟩ : ∃ sh cm ok, s.next = (sh, cm, ok) := ⟨_, _, _, rfl⟩
      obtain ⟨kd, tx', at', sm, op', key', val', mode', yes'⟩ := cm
      have HN := Lib.hid hn
      have htx : s.tx ≤ 1048576 := by rw [HS.out.1]; exact HTX.out.2
      have HTS := Lib.hid htx
      clear hn htx
      go_wp2_with fail
      refine (both_next (HBO.out.alloc _) HN.out).mono ?_
      rintro e w8 ⟨rfl, hb⟩
      have B1 := Lib.hid ((Blk.new wo 49 #[.bool odd, .int .i64 r.code, .int .i64 r.state, .string r.v, .bool r.h]).below hb (by simp))
      have HBO := Lib.hid ((HBO.out.alloc (.cells #[.bool odd, .int .i64 r.code, .int .i64 r.state, .string r.v, .bool r.h] 49)).below hb)
      clear hb q0 q1 q2 q3 q4 hbl
      go_wp2_with fail
      refine (both_rnext (HBO.out.alloc _) HTS.out HN.out).mono ?_
      rintro e w9 ⟨rfl, hb⟩
      have HWL : Hid (wo.heap.size < w8.heap.size) := Lib.hid B1.out.lt
      have HBO0 : Hid (W.heap.size ≤ w8.heap.size) := Lib.hid HBO.out.run.bel.size
      have B1 := Lib.hid ((B1.out.alloc _).below hb (by have := B1.out.lt; simp; omega))
      have B2 := Lib.hid ((Blk.new w8 38 #[.int .i64 kd, .int .i64 tx', .int .i64 at', .int .i64 sm, .int .i64 op', .string key', .string val', .int .i64 mode', .bool yes']).below hb (by simp))
      have HBO := Lib.hid ((HBO.out.alloc (.cells #[.int .i64 kd, .int .i64 tx', .int .i64 at', .int .i64 sm, .int .i64 op', .string key', .string val', .int .i64 mode', .bool yes'] 38)).below hb)
      clear hb
      have j0 := B2.out.at_ 0 _ rfl
      have j1 := B2.out.at_ 1 _ rfl
      have j2 := B2.out.at_ 2 _ rfl
      have j3 := B2.out.at_ 3 _ rfl
      have j4 := B2.out.at_ 4 _ rfl
      have j5 := B2.out.at_ 5 _ rfl
      have j6 := B2.out.at_ 6 _ rfl
      have j7 := B2.out.at_ 7 _ rfl
      have j8 := B2.out.at_ 8 _ rfl
      have jf4 := B2.out.frozen 4
      have a0 := B1.out.at_ 0 _ rfl
      have a1 := B1.out.at_ 1 _ rfl
      have a2 := B1.out.at_ 2 _ rfl
      have a3 := B1.out.at_ 3 _ rfl
      have a4 := B1.out.at_ 4 _ rfl
      have jl := B2.out.lt
      have al := B1.out.lt
      have hwl : wo.heap.size < w8.heap.size := HWL.out
      have hwn : ¬ wo.heap.size = w8.heap.size := by omega
      have hWw : W.heap.size ≤ w8.heap.size := by have := HBO0.out; omega
      have hop : 0 ≤ op' ∧ op' ≤ 60 := by
        have := next_op HBO.out.run.inv HBO.out.rel
        rw [HN.out] at this
        exact this
      have hoph := xor_ne hop.1 hop.2
      have HOX := Lib.hid hoph
      have hokp : ok = decide (s.phase ≠ 8) := by
        have := next_some s HBO.out.run.inv
        rw [HN.out] at this
        exact this
      have HOK := Lib.hid hokp
      clear hop hoph hokp
      cases odd with
      | true =>
        go_wp2_with fail
        generalize bits BinOp.xor IntKind.i64 op' 1 = ox at *
        by_cases h8 : s.phase = 8
        · refine (told_over ⟨kd, tx', at', sm, ox, key', val', mode', yes'⟩ r ((HBO.out.far (p := ⟨w8.heap.size, 4, none⟩) B2.out hWw _).alloc _).run.drv HBO.out.run.inv h8).mono ?_
          rintro e w10 ⟨rfl, hb⟩
          have HB1 := Lib.hid (((HBO.out.far (p := ⟨w8.heap.size, 4, none⟩) B2.out hWw (.int .i64 ox)).alloc (.cells #[.int .i64 kd, .int .i64 tx', .int .i64 at', .int .i64 sm, .int .i64 op', .string key', .string val', .int .i64 mode', .bool yes'] 38)).below hb)
          clear hb h8
          go_wp2_with fail
          go_roundw
          case measure => simp [intOf]; omega
          case rel => exact ⟨k + 1, s, L, t, M, by omega, by go_num, HB1, HS⟩
        · refine (told_other ⟨kd, tx', at', sm, ox, key', val', mode', yes'⟩ r ((HBO.out.far (p := ⟨w8.heap.size, 4, none⟩) B2.out hWw _).alloc _).run.drv HBO.out.run.inv h8 (cmdEq_op (by rw [HN.out]; exact HOX.out))).mono ?_
          rintro e w10 ⟨rfl, hb⟩
          have HB1 := Lib.hid (((HBO.out.far (p := ⟨w8.heap.size, 4, none⟩) B2.out hWw (.int .i64 ox)).alloc (.cells #[.int .i64 kd, .int .i64 tx', .int .i64 at', .int .i64 sm, .int .i64 op', .string key', .string val', .int .i64 mode', .bool yes'] 38)).below hb)
          clear hb h8
          go_wp2_with fail
          go_roundw
          case measure => simp [intOf]; omega
          case rel => exact ⟨k + 1, s, L, t, M, by omega, by go_num, HB1, HS⟩
      | false =>
        by_cases h8 : s.phase = 8
        · obtain rfl : ok = false := by rw [HOK.out]; simp [h8]
          go_wp2_with fail
          refine (told_over ⟨kd, tx', at', sm, op', key', val', mode', yes'⟩ r (HBO.out.alloc _).run.drv HBO.out.run.inv h8).mono ?_
          rintro e w10 ⟨rfl, hb⟩
          have HB1 := Lib.hid ((HBO.out.alloc (.cells #[.int .i64 kd, .int .i64 tx', .int .i64 at', .int .i64 sm, .int .i64 op', .string key', .string val', .int .i64 mode', .bool yes'] 38)).below hb)
          clear hb h8 j0 j1 j2 j3 j4 j5 j6 j7 j8 jf4 a0 a1 a2 a3 a4 jl al
          have HQ1 := Lib.hid (both_state1 HB1.out)
          have HQ2 := Lib.hid (both_state2 HB1.out)
          have HQ3 := Lib.hid (both_att HB1.out)
          have r5 := HB1.out.ref.c5
          rw [show t.attempt = s.attempt from HB1.out.rel.att] at r5
          have hlt5 := HB1.out.ref.lt
          generalize s.state = st at *
          generalize s.attempt = sa at *
          go_wp2_with fail
          go_quiet ((first | (go_at_call 11; exact Calls.quiet_of (HQ1.out _)) | (go_at_call 17; exact Calls.quiet_of (HQ2.out _)) | (go_at_call 18; exact Calls.quiet_of (HQ3.out _))))
          go_wp2_with fail
          go_roundw
          case measure => simp [intOf]; omega
          case rel => exact ⟨k + 1, s, L, t, M, by omega, by go_num, Lib.hid (HB1.out.drewN _), HS⟩
        · obtain rfl : ok = true := by rw [HOK.out]; simp [h8]
          have H8 := Lib.hid h8
          clear h8
          go_wp2_with fail
          refine (told_any r (HBO.out.alloc _).run.drv HBO.out.run.inv H8.out ⟨kd, tx', at', sm, op', key', val', mode', yes'⟩ (by rw [HN.out]; exact cmdEq_refl _) hrv2 (HBO.out.alloc _).run.gl hB).mono ?_
          rintro e w10 ⟨rfl, hP⟩
          obtain ⟨L2, hR2, hF2, hA2, hK2⟩ := (HBO.out.alloc (.cells #[.int .i64 kd, .int .i64 tx', .int .i64 at', .int .i64 sm, .int .i64 op', .string key', .string val', .int .i64 mode', .bool yes'] 38)).told1 hP (HBO.out.run.inv.told r)
          have HR2' := Lib.hid hR2
          have HF2 := Lib.hid hF2
          have HA2 := Lib.hid hA2
          have B1' := Lib.hid (hK2 _ _ _ (by decide) (by decide) (by decide) (by decide) (B1.out.alloc (.cells #[.int .i64 kd, .int .i64 tx', .int .i64 at', .int .i64 sm, .int .i64 op', .string key', .string val', .int .i64 mode', .bool yes'] 38)))
          clear hP hR2 hF2 hA2 hK2 j0 j1 j2 j3 j4 j5 j6 j7 j8 jf4 a0 a1 a2 a3 a4 jl al
          have a1 := B1'.out.at_ 1 _ rfl
          have a2 := B1'.out.at_ 2 _ rfl
          have a3 := B1'.out.at_ 3 _ rfl
          have a4 := B1'.out.at_ 4 _ rfl
          have al := B1'.out.lt
          go_wp2_with fail
          refine (tell_any2 HBO.out.rel HBO.out.run.inv HTS.out H8.out HF2.out hrv2).mono ?_
          rintro e w11 ⟨rfl, hP⟩
          obtain ⟨M2, hB2, hK2⟩ := Both.told2 HR2'.out HF2.out HA2.out hP (HBO.out.rel.tell HBO.out.run.inv H8.out r)
          have HB1 := Lib.hid hB2
          have hs2 : (s.told r).tx = tx ∧ (s.told r).stamp = stamp ∧ OverRes (s.told r) := ⟨by rw [told_tx]; exact HS.out.1, (s.told_same r).1.trans HS.out.2.1, OverRes.told H8.out r⟩
          have HS2 := Lib.hid hs2
          clear hP hB2 hK2 hs2 a1 a2 a3 a4 al
          have HQ1 := Lib.hid (both_state1 HB1.out)
          have HQ2 := Lib.hid (both_state2 HB1.out)
          have HQ3 := Lib.hid (both_att HB1.out)
          have r5 := HB1.out.ref.c5
          rw [show (t.tell r).attempt = (s.told r).attempt from HB1.out.rel.att] at r5
          have hlt5 := HB1.out.ref.lt
          generalize (s.told r).state = st at *
          generalize (s.told r).attempt = sa at *
          go_wp2_with fail
          go_quiet ((first | (go_at_call 11; exact Calls.quiet_of (HQ1.out _)) | (go_at_call 17; exact Calls.quiet_of (HQ2.out _)) | (go_at_call 18; exact Calls.quiet_of (HQ3.out _))))
          go_wp2_with fail
          go_roundw
          case measure => simp [intOf]; omega
          case rel => exact ⟨k + 1, (s.told r), L2, (t.tell r), M2, by omega, by go_num, Lib.hid (HB1.out.drewN _), HS2⟩
    · obtain rfl : k = told.length := by omega
      obtain ⟨wo, rfl⟩ : ∃ wo : World, wo = wr := ⟨_, rfl⟩
      have HB := HBO
      have c10 := HB.out.ref.c10
      obtain ⟨RA, RC, hv, hnc, _, _⟩ := own_slice_form HB.out.ref.res
      have hrow := HB.out.ref.res
      rw [hv] at c10 hrow
      have hlt' := HB.out.ref.lt
      have hl16 := HB.out.run.inv.res16
      have hres := HB.out.rel.res
      have hlen : t.results.length ≤ 4096 := by rw [hres]; omega
      have HROW := Lib.hid (Row.of_own hrow)
      have HRES := Lib.hid hres
      have hst : t.state = s.state := HB.out.rel.state HB.out.run.inv
      have hcs := refState_any HB.out.ref
      rw [hst] at hcs
      have HCS := Lib.hid hcs
      have HST : Hid (s.state = if s.phase = 8 then s.outcome else 1) := rfl
      clear hv hrow hres hst hcs hl16 HBO
      go_wp2_with fail
      refine HCS.out.mono ?_
      rintro e w10 ⟨rfl, rfl⟩
      by_cases h2 : s.state = 2
      · have hout : s.out = t.results := by
          have := HST.out
          rw [h2] at this
          unfold DS.out
          rw [HRES.out]
          split
          · rfl
          · rename_i h8; rw [if_neg h8] at this; exact absurd this (by decide)
        have hR := results_any _ _ _ _ _ HB.out.run.drv HB.out.run.inv
        rw [hout] at hR
        have HR := Lib.hid hR
        rw [h2]
        clear hout hR h2
        go_wp2_with fail
        refine HR.out.mono ?_
        rintro e w11 ⟨⟨RB, RD, rfl, ho⟩, hb⟩
        have HBR := Lib.hid hb
        have hnd : t.results.length ≤ RD := by
          obtain ⟨A', c', hv, h, _, _⟩ := own_slice_form ho
          injection hv with h1 h2 h3
          rw [h3]; exact h
        have HRW := Lib.hid (Row.of_own ho)
        clear hb ho
        go_wp2_with fail
        refine (sameRes_self _ _ _ _ t.results _ hnd hnc HRW.out (HROW.out.below HBR.out) hlen).mono ?_
        rintro e w12 ⟨rfl, n12, rfl⟩
        go_wp2_with fail
        have hT := tx_any _ _ _ _ _ ((HB.out.below HBR.out).drewN n12).run.drv
        rw [HS.out.1] at hT
        refine hT.mono ?_
        clear hT
        rintro e w13 ⟨rfl, n13, rfl⟩
        go_wp2_with fail
        have hT := stamp_any _ _ _ _ _ ((HB.out.below HBR.out).drewN (n12 + n13)).run.drv
        rw [HS.out.2.1] at hT
        refine hT.mono ?_
        clear hT
        rintro e w14 ⟨rfl, n14, rfl⟩
        go_wp2_with fail
        go_ret
        exact ⟨by simp, ((HB.out.below HBR.out).drewN (n12 + n13 + n14)).run.bel⟩
      · have hout : s.out = [] := by
          unfold DS.out
          split
          · rename_i h8
            refine HS.out.2.2 h8 (fun e => h2 ?_)
            rw [HST.out, if_pos h8]; exact e
          · rfl
        have hR := results_any _ _ _ _ _ HB.out.run.drv HB.out.run.inv
        rw [hout] at hR
        have HR := Lib.hid hR
        have h2b : (s.state == 2) = false := beq_eq_false_iff_ne.2 h2
        have h2c : (s.state != 2) = true := by simpa using h2
        generalize s.state = st at *
        clear hout hR h2
        go_wp2_with fail
        refine HR.out.mono ?_
        rintro e w11 ⟨⟨RB, RD, rfl, ho⟩, hb⟩
        have HBR := Lib.hid hb
        have HRW := Lib.hid (Row.of_own ho)
        clear hb ho
        go_wp2_with fail
        refine (sameRes_self _ _ _ _ [] _ (Nat.zero_le _) (Nat.zero_le _) HRW.out (Row.nil _ _ _) (by decide)).mono ?_
        rintro e w12 ⟨rfl, n12, rfl⟩
        go_wp2_with fail
        have hT := tx_any _ _ _ _ _ ((HB.out.below HBR.out).drewN n12).run.drv
        rw [HS.out.1] at hT
        refine hT.mono ?_
        clear hT
        rintro e w13 ⟨rfl, n13, rfl⟩
        go_wp2_with fail
        have hT := stamp_any _ _ _ _ _ ((HB.out.below HBR.out).drewN (n12 + n13)).run.drv
        rw [HS.out.2.1] at hT
        refine hT.mono ?_
        clear hT
        rintro e w14 ⟨rfl, n14, rfl⟩
        go_wp2_with fail
        go_ret
        exact ⟨by simp, ((HB.out.below HBR.out).drewN (n12 + n13 + n14)).run.bel⟩
end
end Go.Proofs.YtheecdjpbfkpdaaDoor
