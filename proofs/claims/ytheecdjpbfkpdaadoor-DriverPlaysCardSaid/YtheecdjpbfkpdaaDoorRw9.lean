/-
  Walks of the document's driver: Tell of a reading.
-/
import Derived.Test.YtheecdjpbfkpdaaDoorRw6
import Derived.Test.YtheecdjpbfkpdaaDoorApp
import Derived.Test.YtheecdjpbfkpdaaDoorRes
import Derived.Deep.RegionLaw
import Derived.Deep.RegionHeld3
import Derived.Outline
namespace Go.Proofs.YtheecdjpbfkpdaaDoor
open Go.RowKit
set_option maxRecDepth 100000
set_option linter.unusedSimpArgs false
set_option linter.unusedVariables false

theorem add0 (g k : Nat) : (⟨g, 0, none⟩ : Addr).add k = ⟨g, k, none⟩ := by unfold Addr.add; split <;> simp_all
structure ReadCut (W w : World) (g : Nat) (M : RL) (t : RS) (rs : Int) (rv : ByteArray) (rh : Bool) (X : World) : Prop where
  b3 : Blk X w.heap.size 36 #[.int .i64 0, .int .i64 rs, .string rv, .bool rh]
  b6 : Blk X (w.heap.size + 1) 52 #[.string (lastR t.results).v, .bool (lastR t.results).h]
  ref : Ref W X g M t
  below : Below w.heap.size w X
structure ReadCut2 (X : World) (p q : Nat) (a b : ResS) (Y : World) : Prop where
  c70 : Y.cell? ⟨p, 0, none⟩ = some (.string a.v)
  c71 : Y.cell? ⟨p, 1, none⟩ = some (.bool a.h)
  c80 : Y.cell? ⟨q, 0, none⟩ = some (.string b.v)
  c81 : Y.cell? ⟨q, 1, none⟩ = some (.bool b.h)
  below : Below X.heap.size X Y
  pw : X.heap.size ≤ p
  qw : X.heap.size ≤ q
  pl : p < Y.heap.size
  ql : q < Y.heap.size

theorem ReadCut2.swap {X Y : World} {p q : Nat} {a b : ResS} (h : ReadCut2 X p q a b Y) : ReadCut2 X q p b a Y := ⟨h.c80, h.c81, h.c70, h.c71, h.below, h.qw, h.pw, h.ql, h.pl⟩
theorem rc0 {X w1 : World} (hb : Below X.heap.size X w1) (a b : ResS) : ReadCut2 X w1.heap.size (w1.heap.size + 1) a b ((w1.alloc (.cells #[.string a.v, .bool a.h] 52)).alloc (.cells #[.string b.v, .bool b.h] 52)) := by
  have b1 := (Blk.new w1 52 #[.string a.v, .bool a.h]).alloc (.cells #[.string b.v, .bool b.h] 52)
  have b2 : Blk _ (w1.heap.size + 1) 52 #[.string b.v, .bool b.h] := Blk.new_ (w := w1.alloc (.cells #[.string a.v, .bool a.h] 52)) (by simp)
  have := hb.size
  exact ⟨b1.at_ 0 _ rfl, b1.at_ 1 _ rfl, b2.at_ 0 _ rfl, b2.at_ 1 _ rfl, (hb.alloc hb.size _).alloc (by simp; omega) _, hb.size, by omega, b1.lt, b2.lt⟩
theorem rc1 {X w1 : World} {cs : Array Value} (hb : Below X.heap.size X w1) (h7 : Blk w1 X.heap.size 52 cs) (hc : cs = #[.string ⟨#[]⟩, .bool false]) (a b : ResS) : ReadCut2 X X.heap.size w1.heap.size a b (((w1.setCell ⟨X.heap.size, 0, none⟩ (.string a.v)).setCell ⟨X.heap.size, 1, none⟩ (.bool a.h)).alloc (.cells #[.string b.v, .bool b.h] 52)) := by
  subst hc
  have b1 := ((h7.set_ 0 (.string a.v)).set_ 1 (.bool a.h)).alloc (.cells #[.string b.v, .bool b.h] 52)
  have b2 : Blk _ w1.heap.size 52 #[.string b.v, .bool b.h] := Blk.new_ (w := (w1.setCell ⟨X.heap.size, 0, none⟩ (.string a.v)).setCell ⟨X.heap.size, 1, none⟩ (.bool a.h)) (by simp)
  have := hb.size
  exact ⟨b1.at_ 0 _ rfl, b1.at_ 1 _ rfl, b2.at_ 0 _ rfl, b2.at_ 1 _ rfl, ((hb.setCell (Nat.le_refl _) _).setCell (Nat.le_refl _) _).alloc (by simp; omega) _, Nat.le_refl _, hb.size, b1.lt, b2.lt⟩
theorem rc2 {X w1 : World} (p q : Nat) {cs cs' : Array Value} (hb : Below X.heap.size X w1) (h7 : Blk w1 p 52 cs) (h8 : Blk w1 q 52 cs') (hc : cs = #[.string ⟨#[]⟩, .bool false]) (hc' : cs' = #[.string ⟨#[]⟩, .bool false]) (hp : X.heap.size ≤ p) (hq : X.heap.size ≤ q) (hne : p ≠ q) (a b : ResS) : ReadCut2 X p q a b ((((w1.setCell ⟨p, 0, none⟩ (.string a.v)).setCell ⟨p, 1, none⟩ (.bool a.h)).setCell ⟨q, 0, none⟩ (.string b.v)).setCell ⟨q, 1, none⟩ (.bool b.h)) := by
  subst hc hc'
  have b1 := (((h7.set_ 0 (.string a.v)).set_ 1 (.bool a.h)).far (p := ⟨q, 0, none⟩) hne (.string b.v)).far (p := ⟨q, 1, none⟩) hne (.bool b.h)
  have b2 := (((h8.far (p := ⟨p, 0, none⟩) hne.symm (.string a.v)).far (p := ⟨p, 1, none⟩) hne.symm (.bool a.h)).set_ 0 (.string b.v)).set_ 1 (.bool b.h)
  exact ⟨b1.at_ 0 _ rfl, b1.at_ 1 _ rfl, b2.at_ 0 _ rfl, b2.at_ 1 _ rfl, (((hb.setCell hp _).setCell hp _).setCell hq _).setCell hq _, hp, hq, b1.lt, b2.lt⟩
/-- The load of the results, under a name: the region's tactic then leaves it to the walk. -/
def ldRes : Op := Op.load 53 (Operand.tmp 165)
theorem own_empty {w : World} {base k : Nat} (h : Blk w k 52 #[]) (hb : base ≤ k) : w.ownsRow base 52 2 (.slice (some ⟨k, 0, none⟩) 0 0) 0 [] :=
  ⟨by simp, .inr ⟨k, 0, #[], rfl, hb, h, Nat.le_refl _, by unfold maxLen; omega, rfl, rfl⟩⟩
theorem row_one {w : World} {k : Nat} {b : ResS} (h : Blk w k 52 #[.string b.v, .bool b.h]) : Row w (some ⟨k, 0, none⟩) 1 2 [.string b.v, .bool b.h] :=
  ⟨by simp, fun _ => ⟨_, rfl, fun j u hj => by
    rw [add0]
    refine h.at_ j u ?_
    rw [← hj]; simp⟩⟩
theorem ones_res (l : List ResS) : ∀ u ∈ resRow l, u.oneCell' = true := by
  intro u hu
  unfold resRow resCells at hu
  simp only [List.mem_flatMap, List.mem_cons, List.not_mem_nil, or_false] at hu
  obtain ⟨r, _, rfl | rfl⟩ := hu <;> rfl
theorem Ref.setRes {W w : World} {g : Nat} {M : RL} {t : RS} {v : Value} {l : List ResS} (h : Ref W w g M t) (ho : w.ownsRow W.heap.size 52 2 v l.length (resRow l)) : Ref W (w.setCell ⟨g, 10, none⟩ v) g { M with rV := v } { t with results := l } :=
  ⟨h.gB, h.bel.setCell h.gB _, h.blk.set_ 10 _, h.scl, h.pcl, h.spl, h.pln, own_setCell ho (p := ⟨g, 10, none⟩) h.blk (by decide) _⟩
theorem Ref.appended {W w Z w2 : World} {g : Nat} {M : RL} {t : RS} {v : Value} {b : ResS} (h : Ref W Z g M t) (hU : Upd (rfoot g M) w Z) (hb : Below Z.heap.size Z w2) (ho : w2.ownsRow W.heap.size 52 2 v (t.results.length + 1) (resRow t.results ++ [.string b.v, .bool b.h])) (hf : ∀ k, v.ownBlock = some k → Z.heap.size ≤ k) :
    RPost W w g M { t with results := t.results ++ [b] } (w2.setCell ⟨g, 10, none⟩ v) := by
  have hl : (t.results ++ [b]).length = t.results.length + 1 := by simp
  have hr : resRow (t.results ++ [b]) = resRow t.results ++ [.string b.v, .bool b.h] := by simp [resRow, resCells]
  rw [← hl, ← hr] at ho
  refine ⟨_, (h.below hb).setRes ho, (hU.below hb).at_r, fun k hk => ?_⟩
  rcases hk with x | x
  · exact .inl (.inl x)
  · exact .inr (Nat.le_trans hU.size (hf k x))
theorem RPost.drew {W w w' : World} {g : Nat} {M : RL} {t' : RS} (h : RPost W w g M t' w') : RPost W w g M t' w'.drew := by
  obtain ⟨M', h1, h2, h3⟩ := h
  exact ⟨M', h1.drewN 1, h2.drew, h3⟩
section
variable {W w : World} {g : Nat} {M : RL} {t : RS} {rs : Int} {rv : ByteArray} {rh : Bool}
set_option maxHeartbeats 20000000 in
theorem refTell_read (hR : Ref W w g M t) (h16 : t.plan.length ≤ 16) (h7 : t.splits.length ≤ 7) (hi0 : 0 ≤ t.i) (hi1 : t.i < t.plan.length) (hr16 : t.results.length ≤ 4096) (hrv : rv.size ≤ 281474976710656) (hk : t.asks = 3) :
    Calls Tryd.prog 16 #[.pointer (some ⟨g, 0, none⟩), .agg #[.int .i64 0, .int .i64 rs, .string rv, .bool rh]] w fun e w' => e = .returned (.tuple #[]) ∧ RPost W w g M (t.tell ⟨0, rs, rv, rh⟩) w' := by
  obtain ⟨n, hn⟩ := Int.eq_ofNat_of_zero_le hi0
  have hnl : n < t.plan.length := by omega
  have hop : opD t.plan n = t.op := by unfold RS.op; rw [hn, Int.toNat_natCast]
  obtain ⟨a, b, hst⟩ : ∃ a b, stepS t.op ⟨rv, rh⟩ (lastR t.results) = (a, b) := ⟨_, _, rfl⟩
  have hrd : t.read ⟨0, rs, rv, rh⟩ = { t with write := a, results := t.results ++ [b] } := by
    unfold RS.read
    rw [stepR_eq]
    show ({ t with write := (stepS t.op ⟨rv, rh⟩ (lastR t.results)).1, results := t.results ++ [(stepS t.op ⟨rv, rh⟩ (lastR t.results)).2] } : RS) = _
    rw [hst]
  have htl : t.tell ⟨0, rs, rv, rh⟩ = (if t.op.kind = 1 then ({ t with write := a, results := t.results ++ [b] } : RS).begins (n + 1) else { t with write := a, results := t.results ++ [b], asks := 4 }) := by
    unfold RS.tell
    simp [hk]
    rw [hrd, hn]
    rfl
  have hstep : ∀ X : World, Calls Tryd.prog 38 #[.agg #[.int .i64 t.op.kind, .string t.op.key, .string t.op.value, .int .i64 t.op.n], .agg #[.string rv, .bool rh], .agg #[.string (lastR t.results).v, .bool (lastR t.results).h]] X fun e w' => e = .returned (.tuple #[.agg #[.string a.v, .bool a.h], .agg #[.string b.v, .bool b.h]]) ∧ Below X.heap.size X w' := fun X => by
    refine (refStep_any t.op.kind t.op.n t.op.key t.op.value rv (lastR t.results).v rh (lastR t.results).h ?_ X).mono ?_
    · unfold plainS
      split
      · exact hrv
      · exact Nat.zero_le _
    · rintro e w' ⟨rfl, hb⟩
      have e1 : stepS ⟨t.op.kind, t.op.key, t.op.value, t.op.n⟩ ⟨rv, rh⟩ ⟨(lastR t.results).v, (lastR t.results).h⟩ = (a, b) := hst
      rw [e1]
      exact ⟨rfl, hb⟩
  have HTL := Lib.hid htl
  have HSP := Lib.hid hstep
  have HN := Lib.hid hn
  have HOP := Lib.hid hop
  have HK := Lib.hid hk
  have c6 := hR.c6
  rw [hk] at c6
  have c10 := hR.c10
  have hlt := hR.lt
  obtain ⟨A, c, hv, hnc, hcm, hg⟩ := own_slice_form hR.res
  rw [hv] at c10
  have HV := Lib.hid hv
  have HR := Lib.hid hR
  clear hst hrd htl hstep hn hop hk hR hrv hi0 hi1 hv
  go_enter Tryd.func16, Tryd.ntmps16
  go_upto_if 124 with (fail)
  go_cut [6] (fun s6 X => s6 = .pointer (some ⟨w.heap.size + 1, 0, none⟩) ∧ ReadCut W w g M t rs rv rh X)
  case first =>
    by_cases hne : t.results = []
    · have hl0 : t.results.length = 0 := by rw [hne]; rfl
      have hlast : lastR t.results = ResS.zero := by rw [hne]; rfl
      have HL := Lib.hid hlast
      clear hlast hne
      rw [hl0] at c10
      clear hg
      go_wp2_with fail
      go_meet
      refine ⟨rfl, ⟨(Blk.new w _ _).alloc _, ?_, (HR.out.alloc _).alloc _, ((Below.refl _ _).alloc (Nat.le_refl _) _).alloc (by simp) _⟩⟩
      rw [HL.out]
      exact Blk.new_ (by simp)
    · have hpos : 0 < t.results.length := List.length_pos_iff.2 hne
      obtain ⟨gr, rfl⟩ := hg hpos
      have hlast : t.results[t.results.length - 1]? = some (lastR t.results) := by
        unfold lastR
        rw [List.getLastD_eq_getLast?, ← List.getLast?_eq_getElem?, List.getLast?_eq_some_getLast hne]
        rfl
      have hrow := Row.of_own (by have := HR.out.res; rw [HV.out] at this; exact this)
      obtain ⟨ad, hA, q0, q1⟩ := hrow.res2 _ _ hlast
      injection hA with hA
      subst hA
      clear hlast hrow hne
      obtain ⟨m, hm⟩ : ∃ m, t.results.length = m + 1 := ⟨t.results.length - 1, by omega⟩
      rw [hm] at c10 q0 q1
      rw [Nat.add_sub_cancel, add0] at q0 q1
      have hbl := World.block_lt_of_cell? _ _ q0
      clear hpos hnc
      have z1 : (0 : Int) ≤ (m : Int) := by omega
      have z2 : (m : Int) < (m : Int) + 1 := by omega
      go_wp2_with fail
      go_region
      all_goals
        go_wp2_with fail
        go_meet
        exact ⟨rfl, ⟨((Blk.new w _ _).alloc _).drew, (Blk.new_ (by simp)).drew, ((HR.out.alloc _).alloc _).drewN 1, (((Below.refl _ _).alloc (Nat.le_refl _) _).alloc (by simp) _).drew⟩⟩
  case rest =>
  obtain ⟨rfl, hC⟩ := hcut
  obtain ⟨X, rfl⟩ : ∃ X : World, X = wc := ⟨_, rfl⟩
  clear c6 c10 hlt hnc hg HR
  have c4 := hC.ref.c4
  have c7 := hC.ref.c7
  rw [HN.out] at c7
  obtain ⟨ad, hA, q0, q1, q2, q3⟩ := hC.ref.plnRow.op n _ (opD_at hnl)
  rw [hA] at c4
  rw [HOP.out] at q0 q1 q2 q3
  have hbl := World.block_lt_of_cell? _ _ q0
  have hltX := hC.ref.lt
  have k3 := hC.b3.lt
  have k6 := hC.b6.lt
  have e2 := hC.b3.at_ 2 _ rfl
  have e3 := hC.b3.at_ 3 _ rfl
  have d0 := hC.b6.at_ 0 _ rfl
  have d1 := hC.b6.at_ 1 _ rfl
  have z1 : (0 : Int) ≤ (n : Int) := by omega
  have z2 : (n : Int) < (t.plan.length : Int) := by omega
  have HC := Lib.hid hC
  clear hC hA
  go_upto_region 19 with (fail)
  go_cut [7, 8] (fun s7 s8 Y => ∃ p q, s7 = .pointer (some ⟨p, 0, none⟩) ∧ s8 = .pointer (some ⟨q, 0, none⟩) ∧ ReadCut2 X p q a b Y)
  case first =>
   as_aux_lemma =>
    have ne011a : ¬ g = X.heap.size := by omega
    have ne011b : ¬ X.heap.size = g := by omega
    have ne015a : ¬ g = X.heap.size + 1 := by omega
    have ne015b : ¬ X.heap.size + 1 = g := by omega
    have ne111a : ¬ (ad.add (n * 4)).block = X.heap.size := by omega
    have ne111b : ¬ X.heap.size = (ad.add (n * 4)).block := by omega
    have ne115a : ¬ (ad.add (n * 4)).block = X.heap.size + 1 := by omega
    have ne115b : ¬ X.heap.size + 1 = (ad.add (n * 4)).block := by omega
    have ne211a : ¬ w.heap.size = X.heap.size := by omega
    have ne211b : ¬ X.heap.size = w.heap.size := by omega
    have ne215a : ¬ w.heap.size = X.heap.size + 1 := by omega
    have ne215b : ¬ X.heap.size + 1 = w.heap.size := by omega
    have ne311a : ¬ w.heap.size + 1 = X.heap.size := by omega
    have ne311b : ¬ X.heap.size = w.heap.size + 1 := by omega
    have ne315a : ¬ w.heap.size = X.heap.size := by omega
    go_region_held3 (fun w' => w'.cell? (ad.add (n * 4)) = some (.int .i64 t.op.kind) ∧ w'.cell? ⟨(ad.add (n * 4)).block, (ad.add (n * 4)).off + 1, none⟩ = some (.string t.op.key) ∧ w'.cell? ⟨(ad.add (n * 4)).block, (ad.add (n * 4)).off + 2, none⟩ = some (.string t.op.value) ∧ w'.cell? ⟨(ad.add (n * 4)).block, (ad.add (n * 4)).off + 3, none⟩ = some (.int .i64 t.op.n) ∧ w'.cell? ⟨g, 4, none⟩ = some (.slice (some ad) t.plan.length M.pc) ∧ w'.cell? ⟨g, 7, none⟩ = some (.int .i64 (n : Int)) ∧ w'.cell? ⟨w.heap.size, 2, none⟩ = some (.string rv) ∧ w'.cell? ⟨w.heap.size, 3, none⟩ = some (.bool rh) ∧ w'.cell? ⟨w.heap.size + 1, 0, none⟩ = some (.string (lastR t.results).v) ∧ w'.cell? ⟨w.heap.size + 1, 1, none⟩ = some (.bool (lastR t.results).h))
      (first | go_keep | (go_split_ands; refine ⟨(hb.cell (p := (ad.add (n * 4))) (by simp <;> omega)).trans (by assumption), (hb.cell (p := ⟨(ad.add (n * 4)).block, (ad.add (n * 4)).off + 1, none⟩) (by simp <;> omega)).trans (by assumption), (hb.cell (p := ⟨(ad.add (n * 4)).block, (ad.add (n * 4)).off + 2, none⟩) (by simp <;> omega)).trans (by assumption), (hb.cell (p := ⟨(ad.add (n * 4)).block, (ad.add (n * 4)).off + 3, none⟩) (by simp <;> omega)).trans (by assumption), (hb.cell (p := ⟨g, 4, none⟩) (by simp <;> omega)).trans (by assumption), (hb.cell (p := ⟨g, 7, none⟩) (by simp <;> omega)).trans (by assumption), (hb.cell (p := ⟨w.heap.size, 2, none⟩) (by simp <;> omega)).trans (by assumption), (hb.cell (p := ⟨w.heap.size, 3, none⟩) (by simp <;> omega)).trans (by assumption), (hb.cell (p := ⟨w.heap.size + 1, 0, none⟩) (by simp <;> omega)).trans (by assumption), (hb.cell (p := ⟨w.heap.size + 1, 1, none⟩) (by simp <;> omega)).trans (by assumption)⟩))
      (first | (go_at_call 38; refine (HSP.out _).mono ?_; rintro e w1 ⟨rfl, hb⟩; go_split_ands; have y0 : w1.cell? (ad.add (n * 4)) = some (.int .i64 t.op.kind) := (hb.cell (p := (ad.add (n * 4))) (by simp <;> omega)).trans (by assumption); have y1 : w1.cell? ⟨(ad.add (n * 4)).block, (ad.add (n * 4)).off + 1, none⟩ = some (.string t.op.key) := (hb.cell (p := ⟨(ad.add (n * 4)).block, (ad.add (n * 4)).off + 1, none⟩) (by simp <;> omega)).trans (by assumption); have y2 : w1.cell? ⟨(ad.add (n * 4)).block, (ad.add (n * 4)).off + 2, none⟩ = some (.string t.op.value) := (hb.cell (p := ⟨(ad.add (n * 4)).block, (ad.add (n * 4)).off + 2, none⟩) (by simp <;> omega)).trans (by assumption); have y3 : w1.cell? ⟨(ad.add (n * 4)).block, (ad.add (n * 4)).off + 3, none⟩ = some (.int .i64 t.op.n) := (hb.cell (p := ⟨(ad.add (n * 4)).block, (ad.add (n * 4)).off + 3, none⟩) (by simp <;> omega)).trans (by assumption); have y4 : w1.cell? ⟨g, 4, none⟩ = some (.slice (some ad) t.plan.length M.pc) := (hb.cell (p := ⟨g, 4, none⟩) (by simp <;> omega)).trans (by assumption); have y5 : w1.cell? ⟨g, 7, none⟩ = some (.int .i64 (n : Int)) := (hb.cell (p := ⟨g, 7, none⟩) (by simp <;> omega)).trans (by assumption); have y6 : w1.cell? ⟨w.heap.size, 2, none⟩ = some (.string rv) := (hb.cell (p := ⟨w.heap.size, 2, none⟩) (by simp <;> omega)).trans (by assumption); have y7 : w1.cell? ⟨w.heap.size, 3, none⟩ = some (.bool rh) := (hb.cell (p := ⟨w.heap.size, 3, none⟩) (by simp <;> omega)).trans (by assumption); have y8 : w1.cell? ⟨w.heap.size + 1, 0, none⟩ = some (.string (lastR t.results).v) := (hb.cell (p := ⟨w.heap.size + 1, 0, none⟩) (by simp <;> omega)).trans (by assumption); have y9 : w1.cell? ⟨w.heap.size + 1, 1, none⟩ = some (.bool (lastR t.results).h) := (hb.cell (p := ⟨w.heap.size + 1, 1, none⟩) (by simp <;> omega)).trans (by assumption); (first | (have x7 : Blk w1 X.heap.size 52 #[.string ⟨#[]⟩, .bool false] := ((Blk.new X 52 #[.string ⟨#[]⟩, .bool false]).alloc (.cells #[.string ⟨#[]⟩, .bool false] 52)).drew.below hb (by simp <;> omega); have x70 := x7.at_ 0 _ rfl; have x71 := x7.at_ 1 _ rfl; have xf0 := x7.frozen 0; have xf1 := x7.frozen 1; have xl := x7.lt; have X7 := Lib.hid x7; clear x7; have x8 : Blk w1 (X.heap.size + 1) 52 #[.string ⟨#[]⟩, .bool false] := (Blk.new_ (w := X.alloc (.cells #[.string ⟨#[]⟩, .bool false] 52)) (by simp)).drew.below hb (by simp <;> omega); have x80 := x8.at_ 0 _ rfl; have x81 := x8.at_ 1 _ rfl; have xg0 := x8.frozen 0; have xg1 := x8.frozen 1; have xm := x8.lt; have X8 := Lib.hid x8; clear x8; have HB1 : Hid (Below X.heap.size X w1) := Lib.hid (((((Below.refl X.heap.size X).alloc (by simp) (.cells #[.string ⟨#[]⟩, .bool false] 52)).alloc (by simp <;> omega) (.cells #[.string ⟨#[]⟩, .bool false] 52)).drew).trans (hb.mono (by simp <;> omega))); have s1 := HB1.out.size) | (have x7 : Blk w1 X.heap.size 52 #[.string ⟨#[]⟩, .bool false] := (Blk.new X 52 #[.string ⟨#[]⟩, .bool false]).drew.below hb (by simp <;> omega); have x70 := x7.at_ 0 _ rfl; have x71 := x7.at_ 1 _ rfl; have xf0 := x7.frozen 0; have xf1 := x7.frozen 1; have xl := x7.lt; have X7 := Lib.hid x7; clear x7; have HB1 : Hid (Below X.heap.size X w1) := Lib.hid ((((Below.refl X.heap.size X).alloc (by simp <;> omega) (.cells #[.string ⟨#[]⟩, .bool false] 52)).drew).trans (hb.mono (by simp <;> omega))); have s1 := HB1.out.size) | (have HB1 : Hid (Below X.heap.size X w1) := Lib.hid (((Below.refl X.heap.size X).drew).trans (hb.mono (by simp <;> omega))); have s1 := HB1.out.size)); have g1 : g < w1.heap.size := (by omega); have g2 : (ad.add (n * 4)).block < w1.heap.size := (by omega); have g3 : w.heap.size + 1 < w1.heap.size := (by omega); have g4 : w.heap.size < w1.heap.size := (by omega)))
    all_goals
      go_wp2_with fail
      go_meet
      first
        | with_reducible exact ⟨_, _, rfl, rfl, rc0 HB1.out a b⟩
        | with_reducible exact ⟨_, _, rfl, rfl, (rc0 HB1.out b a).swap⟩
        | with_reducible exact ⟨_, _, rfl, rfl, rc1 HB1.out X7.out rfl a b⟩
        | with_reducible exact ⟨_, _, rfl, rfl, (rc1 HB1.out X7.out rfl b a).swap⟩
        | with_reducible exact ⟨_, _, rfl, rfl, rc2 _ _ HB1.out X7.out X8.out rfl rfl (Nat.le_refl _) (Nat.le_succ _) (Nat.ne_of_lt (Nat.lt_succ_self _)) a b⟩
        | with_reducible exact ⟨_, _, rfl, rfl, rc2 _ _ HB1.out X8.out X7.out rfl rfl (Nat.le_succ _) (Nat.le_refl _) (Nat.ne_of_gt (Nat.lt_succ_self _)) a b⟩
  case rest =>
  obtain ⟨p, q, rfl, rfl, hC2⟩ := hcut
  obtain ⟨Y, rfl⟩ : ∃ Y : World, Y = wc := ⟨_, rfl⟩
  clear c4 c7 q0 q1 q2 q3 hbl k3 k6 e2 e3 d0 d1 z1 z2
  have hRY := HC.out.ref.below hC2.below
  have hBY := HC.out.below.trans (hC2.below.mono HC.out.below.size)
  have c8 := hRY.c8
  have c9 := hRY.c9
  have f8 := hRY.fz 8
  have f9 := hRY.fz 9
  have hltY := hRY.lt
  have cp70 := hC2.c70
  have cp71 := hC2.c71
  have hXw := HC.out.below.size
  have n1 : ¬ p = g := by have := hC2.pw; omega
  have n2 : ¬ q = g := by have := hC2.qw; omega
  have hqw : w.heap.size ≤ q := by have := hC2.qw; omega
  have cp80 := hC2.c80
  have cp81 := hC2.c81
  have hql := hC2.ql
  have HRY := Lib.hid hRY
  have HBY := Lib.hid hBY
  clear hC2 hRY hBY HC hltX hXw
  go_upto_region 20 with (fail)
  go_cut [] (fun Z => Ref W Z g M { t with write := a } ∧ Upd (rfoot g M) w Z ∧ Z.cell? ⟨q, 0, none⟩ = some (.string b.v) ∧ Z.cell? ⟨q, 1, none⟩ = some (.bool b.h) ∧ q < Z.heap.size)
  case first =>
    go_wp2_with fail
    go_meet
    refine ⟨(HRY.out.set8 a.v).set9 a.h, ((Upd.of_below HBY.out).at_r).at_r, ?_, ?_, by simpa using hql⟩
    · rw [World.cell?_setCell_other _ _ _ _ (by simp [n2]), World.cell?_setCell_other _ _ _ _ (by simp [n2])]; exact cp80
    · rw [World.cell?_setCell_other _ _ _ _ (by simp [n2]), World.cell?_setCell_other _ _ _ _ (by simp [n2])]; exact cp81
  case rest =>
  obtain ⟨hRZ, hUZ, v80, v81, hqZ⟩ := hcut
  obtain ⟨Z, rfl⟩ : ∃ Z : World, Z = wc := ⟨_, rfl⟩
  clear c8 c9 f8 f9 hltY cp70 cp71 n1 cp80 cp81 hql HRY HBY
  have c10 := hRZ.c10
  rw [HV.out] at c10
  have f10 := hRZ.fz 10
  have hltZ := hRZ.lt
  have hrow := hRZ.res
  rw [show ({ t with write := a } : RS).results = t.results from rfl, HV.out] at hrow
  have HROW := Lib.hid (Row.of_own hrow)
  have HRZ := Lib.hid hRZ
  have HUZ := Lib.hid hUZ
  obtain ⟨i0, hi, hz0, hz1, hz2⟩ := info_parts info_res
  clear hRZ hUZ hrow
  go_upto_region 21 with (fail)
  go_cut [] (fun V => RPost W w g M { t with write := a, results := t.results ++ [b] } V)
  case first =>
   as_aux_lemma =>
    have hWZ : W.heap.size ≤ Z.heap.size := Nat.le_trans HRZ.out.gB (Nat.le_of_lt hltZ)
    have hng1 : ¬ g = Z.heap.size := by omega
    have hnq1 : ¬ q = Z.heap.size := by omega
    have HSK : Hid (∀ w' : World, Below Z.heap.size Z w' → w'.cell? ⟨g, 10, none⟩ = some (.slice A t.results.length c) ∧ w'.cell? ⟨q, 0, none⟩ = some (.string b.v) ∧ w'.cell? ⟨q, 1, none⟩ = some (.bool b.h)) :=
      Lib.hid fun w' hb => ⟨(hb.cell (p := ⟨g, 10, none⟩) hltZ).trans c10, (hb.cell (p := ⟨q, 0, none⟩) hqZ).trans v80, (hb.cell (p := ⟨q, 1, none⟩) hqZ).trans v81⟩
    have hl1 : Op.load 53 (Operand.tmp 165) = ldRes := rfl
    rw [hl1]
    clear hl1
    have hl2 : ldRes = Op.load 53 (Operand.tmp 165) := rfl
    go_region_held3 (fun w' => w'.cell? ⟨q, 0, none⟩ = some (.string b.v) ∧ w'.cell? ⟨q, 1, none⟩ = some (.bool b.h))
      (first | with_reducible exact (HSK.out _ HB2.out).2 | with_reducible exact (HSK.out _ HB1.out).2 | with_reducible exact (HSK.out _ (HB1.out.alloc HB1.out.size _)).2 | with_reducible exact (HSK.out _ ((Below.refl _ _).alloc (Nat.le_refl _) _).drew).2 | with_reducible exact (HSK.out _ (((Below.refl _ _).alloc (Nat.le_refl _) _).alloc (by simp) _).drew).2 | with_reducible exact (HSK.out _ ((Below.refl _ _).alloc (Nat.le_refl _) _)).2 | with_reducible exact (HSK.out _ (((Below.refl _ _).alloc (Nat.le_refl _) _).alloc (by simp) _)).2 | with_reducible exact (HSK.out _ (Below.refl _ _).drew).2 | with_reducible exact (HSK.out _ (Below.refl _ _)).2 | exact ⟨(World.cell?_setCell_other _ _ _ _ (by simp [n2])).trans (HSK.out _ HB2.out).2.1, (World.cell?_setCell_other _ _ _ _ (by simp [n2])).trans (HSK.out _ HB2.out).2.2⟩ | go_keep)
      (first
        | (refine step_append_row _ (by rfl) (.tmp 162) (.tmp 166) 53 (by rfl) W.heap.size 52 i0 _ 2 24 Tryd.underlying53 hi hz0 hz1 hz2 rfl (by decide) (.slice (some ⟨Z.heap.size, 0, none⟩) 0 0) 0 [] (by rfl) (by first | exact own_empty (Blk.new Z _ _).drew hWZ | exact own_empty ((Blk.new Z _ _).alloc _).drew hWZ) _ t.results.length _ (resRow t.results) (by rfl) (HROW.out.below (by first | exact ((Below.refl _ _).alloc (Nat.le_refl _) _).drew | exact (((Below.refl _ _).alloc (Nat.le_refl _) _).alloc (by simp) _).drew)) (ones_res _) (by unfold maxLen; omega) (by omega) (by simp <;> omega) ?_
           intro v1 w1 ho1 hg1 ha1
           simp only [Nat.zero_add, List.nil_append] at ho1
           have HB1 : Hid (Below Z.heap.size Z w1) := Lib.hid (Below.grown (by first | exact ((Below.refl _ _).alloc (Nat.le_refl _) _).drew | exact (((Below.refl _ _).alloc (Nat.le_refl _) _).alloc (by simp) _).drew) hg1 (by simp <;> omega) (fun k hk => by simp [Value.ownBlock] at hk; omega))
           have HF1 : Hid (∀ k, v1.ownBlock = some k → Z.heap.size ≤ k) := Lib.hid (fun k hk => by rcases ha1 with e | e <;> rw [e] at hk <;> simp [Value.ownBlock] at hk <;> omega)
           have HO1 := Lib.hid ho1
           obtain ⟨hc10, hv80, hv81⟩ := HSK.out w1 HB1.out
           have hs1 := HB1.out.size
           first
             | (have XL : Hid (Blk w1 (Z.heap.size + 1) 52 #[.string b.v, .bool b.h]) := Lib.hid ((Blk.new_ (w := Z.alloc (.cells #[] 52)) (k := Z.heap.size + 1) (by simp)).drew.keep (hg1.block (Z.heap.size + 1) (by simp) (by simp [Value.ownBlock]))))
             | (have XL : Hid (Blk w1 Z.heap.size 52 #[.string b.v, .bool b.h]) := Lib.hid (((Blk.new Z _ _).alloc (.cells #[] 52)).drew.keep (hg1.block Z.heap.size (by simp <;> omega) (by simp [Value.ownBlock]))))
             | skip
           clear ho1 hg1 ha1)
        | (refine step_append_row _ (by rfl) (.tmp 162) (.tmp 166) 53 (by rfl) W.heap.size 52 i0 _ 2 24 Tryd.underlying53 hi hz0 hz1 hz2 rfl (by decide) (.slice (some ⟨Z.heap.size + 1, 0, none⟩) 0 0) 0 [] (by rfl) (by exact own_empty (Blk.new_ (w := Z.alloc (.cells #[.string b.v, .bool b.h] 52)) (by simp)).drew (by omega)) _ t.results.length _ (resRow t.results) (by rfl) (HROW.out.below (by first | exact ((Below.refl _ _).alloc (Nat.le_refl _) _).drew | exact (((Below.refl _ _).alloc (Nat.le_refl _) _).alloc (by simp) _).drew)) (ones_res _) (by unfold maxLen; omega) (by omega) (by simp <;> omega) ?_
           intro v1 w1 ho1 hg1 ha1
           simp only [Nat.zero_add, List.nil_append] at ho1
           have HB1 : Hid (Below Z.heap.size Z w1) := Lib.hid (Below.grown (by first | exact ((Below.refl _ _).alloc (Nat.le_refl _) _).drew | exact (((Below.refl _ _).alloc (Nat.le_refl _) _).alloc (by simp) _).drew) hg1 (by simp <;> omega) (fun k hk => by simp [Value.ownBlock] at hk; omega))
           have HF1 : Hid (∀ k, v1.ownBlock = some k → Z.heap.size ≤ k) := Lib.hid (fun k hk => by rcases ha1 with e | e <;> rw [e] at hk <;> simp [Value.ownBlock] at hk <;> omega)
           have HO1 := Lib.hid ho1
           obtain ⟨hc10, hv80, hv81⟩ := HSK.out w1 HB1.out
           have hs1 := HB1.out.size
           first
             | (have XL : Hid (Blk w1 (Z.heap.size + 1) 52 #[.string b.v, .bool b.h]) := Lib.hid ((Blk.new_ (w := Z.alloc (.cells #[] 52)) (k := Z.heap.size + 1) (by simp)).drew.keep (hg1.block (Z.heap.size + 1) (by simp) (by simp [Value.ownBlock]))))
             | (have XL : Hid (Blk w1 Z.heap.size 52 #[.string b.v, .bool b.h]) := Lib.hid (((Blk.new Z _ _).alloc (.cells #[] 52)).drew.keep (hg1.block Z.heap.size (by simp <;> omega) (by simp [Value.ownBlock]))))
             | skip
           clear ho1 hg1 ha1)
        | (refine step_append_row _ (by rfl) (.tmp 167) (.tmp 169) 53 (by rfl) W.heap.size 52 i0 _ 2 24 Tryd.underlying53 hi hz0 hz1 hz2 rfl (by decide) v1 t.results.length (resRow t.results) (by rfl) (by first | exact HO1.out | exact own_below HO1.out ((Below.refl _ _).alloc (Nat.le_refl _) _)) _ 1 1 [.string b.v, .bool b.h] (by rfl) (by first | exact row_one (Blk.new w1 _ _) | exact row_one XL.out) (two_one _ _) (by unfold maxLen; omega) (by omega) (by first | omega | (simp; omega)) ?_
           intro v2 w2 ho2 hg2 ha2
           obtain ⟨A3, c3, hv2, _, _, _⟩ := own_slice_form ho2
           subst hv2
           have HB2 : Hid (Below Z.heap.size Z w2) := Lib.hid (Below.grown (by first | exact HB1.out | exact HB1.out.alloc HB1.out.size _) hg2 (by first | omega | (simp; omega)) HF1.out)
           have HF2 : Hid (∀ k, (Value.slice A3 (t.results.length + 1) c3).ownBlock = some k → Z.heap.size ≤ k) := Lib.hid (fun k hk => by
             rcases ha2 with e | e
             · rw [e] at hk; exact HF1.out k hk
             · rw [e] at hk; simp at hk; omega)
           have HO2 := Lib.hid ho2
           have hd10 := (HSK.out w2 HB2.out).1
           have hf10 : w2.frozen? ⟨g, 10, none⟩ = false := (HB2.out.frozen (p := ⟨g, 10, none⟩) hltZ).trans f10
           have hs2 := HB2.out.size
           clear ho2 hg2 ha2))
    all_goals
      go_wp2_with fail
      go_meet
      first | with_reducible exact Ref.appended HRZ.out HUZ.out HB2.out HO2.out HF2.out | with_reducible exact (Ref.appended HRZ.out HUZ.out HB2.out HO2.out HF2.out).drew
  case rest =>
  obtain ⟨M2, hR2, hU2, hF2⟩ := hcut
  obtain ⟨V, rfl⟩ : ∃ V : World, V = wc := ⟨_, rfl⟩
  clear c10 f10 hltZ v80 v81 hqZ HROW HRZ HUZ hi hz0 hz1 hz2
  have c7 : V.cell? ⟨g, 7, none⟩ = some (.int .i64 (n : Int)) := by rw [← HN.out]; exact hR2.c7
  have hpr : Row V M2.pA t.plan.length 4 (opRow t.plan) := hR2.plnRow
  have c4 : V.cell? ⟨g, 4, none⟩ = some (.slice M2.pA t.plan.length M2.pc) := hR2.c4
  have c6 := hR2.c6
  have f6 := hR2.fz 6
  have hltV := hR2.lt
  obtain ⟨ad2, hA2, q0, q1, q2, q3⟩ := hpr.op n _ (opD_at hnl)
  rw [hA2] at c4
  rw [HOP.out] at q0
  have z1 : (0 : Int) ≤ (n : Int) := by omega
  have z2 : (n : Int) < (t.plan.length : Int) := by omega
  have hbl := World.block_lt_of_cell? _ _ q0
  have hE := HTL.out
  have HR2 := Lib.hid hR2
  have HU2 := Lib.hid hU2
  have HF2 := Lib.hid hF2
  clear hR2 hU2 hF2 hpr hA2 q1 q2 q3 HTL
  by_cases hk1 : t.op.kind = 1
  · rw [if_pos hk1] at hE
    have HE := Lib.hid hE
    rw [hk1] at q0
    clear hE hk1
    go_wp2_with fail
    go_quiet (fail)
    go_wp2_with fail
    refine (refOp_any (HR2.out.drewN _) ((n : Int) + 1) (by omega)).mono ?_
    rintro e w9 ⟨rfl, hP⟩
    have HP := Lib.hid hP
    clear hP
    go_wp2_with fail
    first | go_end0 | ((try simp only [Exit.inBlock, Exit.then]); refine bodyPost_ret (results_none rfl _ _ _) rfl ?_)
    rw [HE.out]
    exact ⟨rfl, RPost.from_ (HU2.out.drewN _) HF2.out HP.out⟩
  · rw [if_neg hk1] at hE
    have HE := Lib.hid hE
    have hkb : (t.op.kind == 1) = false := beq_eq_false_iff_ne.2 hk1
    clear hE hk1
    go_wp2_with fail
    go_quiet (fail)
    go_wp2_with fail
    first | go_end0 | ((try simp only [Exit.inBlock, Exit.then]); refine bodyPost_ret (results_none rfl _ _ _) rfl ?_)
    rw [HE.out]
    exact ⟨rfl, RPost.from_ (HU2.out.drewN _) HF2.out (RPost.same ((HR2.out.drewN _).set6 4) (Upd.refl _ _).at_r)⟩
end
end Go.Proofs.YtheecdjpbfkpdaaDoor
