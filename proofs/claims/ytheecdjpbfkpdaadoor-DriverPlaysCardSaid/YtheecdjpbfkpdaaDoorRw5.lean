/-
  The document's driver in memory; the walk of which shards it touched.
-/
import Derived.Test.YtheecdjpbfkpdaaDoorRw4
import Derived.Test.YtheecdjpbfkpdaaDoorRpl2
import Derived.Laws.AppendOwn
import Derived.Deep.QuietTactic
import Derived.BigQuiet
namespace Go.Proofs.YtheecdjpbfkpdaaDoor
open Go.RowKit
set_option maxRecDepth 100000
set_option linter.unusedSimpArgs false
set_option linter.unusedVariables false

/-- Where its parts lie. -/
structure RL where
  sA : Option Addr
  sc : Nat
  pA : Option Addr
  pc : Nat
  rV : Value
def refCells (M : RL) (t : RS) : Array Value := #[.int .i64 t.tx, .int .i64 t.stamp, .int .i64 t.tries, .slice M.sA t.splits.length M.sc, .slice M.pA t.plan.length M.pc, .int .i64 t.attempt, .int .i64 t.asks, .int .i64 t.i, .string t.write.v, .bool t.write.h, M.rV, .int .i64 t.fin, .int .i64 t.told, .bool t.quit]
/-- A document's driver that was made since the world W; its splits and its plan are rows of W. -/
structure Ref (W w : World) (g : Nat) (M : RL) (t : RS) : Prop where
  gB : W.heap.size ≤ g
  bel : Below W.heap.size W w
  blk : Blk w g 55 (refCells M t)
  scl : t.splits.length ≤ M.sc
  pcl : t.plan.length ≤ M.pc
  spl : Row W M.sA t.splits.length 1 (strRow t.splits)
  pln : Row W M.pA t.plan.length 4 (opRow t.plan)
  res : w.ownsRow W.heap.size 52 2 M.rV t.results.length (resRow t.results)
def rfoot (g : Nat) (M : RL) (k : Nat) : Prop := k = g ∨ M.rV.ownBlock = some k
section
variable {W w w' : World} {g : Nat} {M : RL} {t : RS}
theorem Ref.lt (h : Ref W w g M t) : g < w.heap.size := h.blk.lt
theorem Ref.below (h : Ref W w g M t) (hb : Below w.heap.size w w') : Ref W w' g M t :=
  ⟨h.gB, h.bel.trans (hb.mono h.bel.size), h.blk.below hb h.lt, h.scl, h.pcl, h.spl, h.pln, own_below h.res hb⟩
theorem Ref.alloc (h : Ref W w g M t) (o : Obj) : Ref W (w.alloc o) g M t := h.below ((Below.refl _ _).alloc (Nat.le_refl _) o)
theorem Ref.drewN (h : Ref W w g M t) (n : Nat) : Ref W (w.drewN n) g M t :=
  ⟨h.gB, ⟨h.bel.os, h.bel.tape, h.bel.output, h.bel.size, h.bel.block⟩, h.blk, h.scl, h.pcl, h.spl, h.pln, own_keep h.res (fun _ _ => rfl)⟩
theorem Ref.splRow (h : Ref W w g M t) : Row w M.sA t.splits.length 1 (strRow t.splits) := h.spl.below h.bel
theorem Ref.plnRow (h : Ref W w g M t) : Row w M.pA t.plan.length 4 (opRow t.plan) := h.pln.below h.bel
theorem Ref.c0 (h : Ref W w g M t) : w.cell? ⟨g, 0, none⟩ = some (.int .i64 t.tx) := h.blk.at_ 0 _ rfl
theorem Ref.c1 (h : Ref W w g M t) : w.cell? ⟨g, 1, none⟩ = some (.int .i64 t.stamp) := h.blk.at_ 1 _ rfl
theorem Ref.c2 (h : Ref W w g M t) : w.cell? ⟨g, 2, none⟩ = some (.int .i64 t.tries) := h.blk.at_ 2 _ rfl
theorem Ref.c3 (h : Ref W w g M t) : w.cell? ⟨g, 3, none⟩ = some (.slice M.sA t.splits.length M.sc) := h.blk.at_ 3 _ rfl
theorem Ref.c4 (h : Ref W w g M t) : w.cell? ⟨g, 4, none⟩ = some (.slice M.pA t.plan.length M.pc) := h.blk.at_ 4 _ rfl
theorem Ref.c5 (h : Ref W w g M t) : w.cell? ⟨g, 5, none⟩ = some (.int .i64 t.attempt) := h.blk.at_ 5 _ rfl
theorem Ref.c6 (h : Ref W w g M t) : w.cell? ⟨g, 6, none⟩ = some (.int .i64 t.asks) := h.blk.at_ 6 _ rfl
theorem Ref.c7 (h : Ref W w g M t) : w.cell? ⟨g, 7, none⟩ = some (.int .i64 t.i) := h.blk.at_ 7 _ rfl
theorem Ref.c8 (h : Ref W w g M t) : w.cell? ⟨g, 8, none⟩ = some (.string t.write.v) := h.blk.at_ 8 _ rfl
theorem Ref.c9 (h : Ref W w g M t) : w.cell? ⟨g, 9, none⟩ = some (.bool t.write.h) := h.blk.at_ 9 _ rfl
theorem Ref.c10 (h : Ref W w g M t) : w.cell? ⟨g, 10, none⟩ = some M.rV := h.blk.at_ 10 _ rfl
theorem Ref.c11 (h : Ref W w g M t) : w.cell? ⟨g, 11, none⟩ = some (.int .i64 t.fin) := h.blk.at_ 11 _ rfl
theorem Ref.c12 (h : Ref W w g M t) : w.cell? ⟨g, 12, none⟩ = some (.int .i64 t.told) := h.blk.at_ 12 _ rfl
theorem Ref.c13 (h : Ref W w g M t) : w.cell? ⟨g, 13, none⟩ = some (.bool t.quit) := h.blk.at_ 13 _ rfl
theorem Ref.fz (h : Ref W w g M t) (i : Nat) : w.frozen? ⟨g, i, none⟩ = false := h.blk.frozen i
end

def touQ (t : RS) (q : Nat) : List Int := ((List.range q).filter fun s => inR t.splits t.plan t.i s && decide (0 ≤ t.i)).map fun (s : Nat) => (s : Int)
theorem touQ_all (t : RS) : touQ t (t.splits.length + 1) = t.touched := rfl
theorem touQ_succ (t : RS) (q : Nat) : touQ t (q + 1) = if inR t.splits t.plan t.i q = true ∧ 0 ≤ t.i then touQ t q ++ [(q : Int)] else touQ t q := by
  unfold touQ
  rw [List.range_succ, List.filter_append, List.map_append]
  by_cases h : inR t.splits t.plan t.i q = true ∧ 0 ≤ t.i
  · rw [if_pos h]; simp [h.1, h.2]
  · rw [if_neg h]
    have : (inR t.splits t.plan t.i q && decide (0 ≤ t.i)) = false := by
      rw [Bool.and_eq_false_iff, decide_eq_false_iff_not]
      cases hh : inR t.splits t.plan t.i q
      · exact .inl rfl
      · exact .inr (fun e => h ⟨hh, e⟩)
    simp [this]
def inK (t : RS) (q k : Nat) : Bool := (List.range k).any fun j => decide ((j : Int) ≤ t.i) && (!decide ((opD t.plan j).kind = 6) && decide (shardOf t.splits (opD t.plan j).key = q))
theorem inK_all (t : RS) (q : Nat) : inK t q t.plan.length = inR t.splits t.plan t.i q := rfl
theorem inK_succ (t : RS) (q k : Nat) : inK t q (k + 1) = (inK t q k || (decide ((k : Int) ≤ t.i) && (!decide ((opD t.plan k).kind = 6) && decide (shardOf t.splits (opD t.plan k).key = q)))) := by
  unfold inK
  rw [List.range_succ, List.any_append]; simp
theorem touQ_len (t : RS) (q : Nat) : (touQ t q).length ≤ q := by
  unfold touQ
  rw [List.length_map]
  exact Nat.le_trans (List.length_filter_le _ _) (by simp)
theorem info_int : (Tryd.prog.info? 3).map (fun i => (i.zero, i.size, i.bytes)) = some (some (.int .i64 0), 1, 8) := by kernel_rfl
theorem one_new (W : World) (x : Value) (ty : TypeId) : ∀ (j : Nat) u, [x][j]? = some u → (W.alloc (.cells #[x] ty)).cell? ((⟨W.heap.size, 0, none⟩ : Addr).add j) = some u := by
  intro j u hj
  rw [show (⟨W.heap.size, 0, none⟩ : Addr).add j = ⟨W.heap.size, j, none⟩ from by unfold Addr.add; split <;> simp_all]
  refine ((Blk.new W ty #[x]).cell j).trans ?_
  simpa using hj

section
variable {W w : World} {g : Nat} {M : RL} {t : RS}
set_option maxHeartbeats 4000000 in
theorem refTouched_any (hR : Ref W w g M t) (h16 : t.plan.length ≤ 16) (h7 : t.splits.length ≤ 7) :
    Calls Tryd.prog 34 #[.pointer (some ⟨g, 0, none⟩)] w fun e w' => (∃ v, e = .returned v ∧ w'.ownsRow w.heap.size 3 1 v t.touched.length (intRow t.touched)) ∧ Below w.heap.size w w' := by
  have HR := Lib.hid hR
  have hlt := hR.lt
  clear hR
  obtain ⟨i0, hi, hz0, hz1, hz2⟩ := info_parts info_int
  have HI : Hid (Tryd.prog.info? 3 = some i0 ∧ i0.zero = some (.int .i64 0) ∧ i0.size = 1 ∧ i0.bytes = 8) := ⟨hi, hz0, hz1, hz2⟩
  clear hi hz0 hz1 hz2
  go_enter Tryd.func34, Tryd.ntmps34
  go_wp2_with fail
  go_loopw [3, 4] (fun v i wr => ∃ q : Nat, q ≤ t.splits.length + 1 ∧ i = .int .i64 q ∧ Hid (wr.ownsRow w.heap.size 3 1 v (touQ t q).length (intRow (touQ t q))) ∧ Hid (Below w.heap.size w wr)) (fun _ i _ => t.splits.length + 1 - (intOf i).toNat)
  case atStart => exact ⟨0, Nat.zero_le _, rfl, Lib.hid (World.ownsRow_nil _ _ _ _), Lib.hid (Below.refl _ _)⟩
  case round =>
    obtain ⟨q, hq, rfl, HO, HB⟩ := hrel

    obtain ⟨wo, rfl⟩ : ∃ wo : World, wo = wr := ⟨_, rfl⟩
    have hRo := HR.out.below HB.out
    have c3 := hRo.c3
    have hlo := hRo.lt
    by_cases hqs : q ≤ t.splits.length
    · have c4 := hRo.c4
      clear hRo
      go_wp2_with fail
      go_loopw [5, 22] (fun v5 i22 wi => ∃ k : Nat, k ≤ t.plan.length ∧ i22 = .int .i64 k ∧ v5 = .bool (inK t q k) ∧ Hid (Below wo.heap.size wo wi)) (fun _ i _ => t.plan.length - (intOf i).toNat)
      case atStart => exact ⟨0, Nat.zero_le _, rfl, rfl, Lib.hid (Below.refl _ _)⟩
      case round =>
        obtain ⟨k, hk, rfl, rfl, HBi⟩ := hrel
        obtain ⟨wi, rfl⟩ : ∃ wi : World, wi = wr := ⟨_, rfl⟩
        have hRi := (HR.out.below HB.out).below HBi.out
        by_cases hlt2 : k < t.plan.length
        · obtain ⟨ad, hA, q0, q1, q2, q3⟩ := hRi.plnRow.op k _ (opD_at hlt2)
          have HX := Lib.hid (inK_succ t q k)
          generalize opD t.plan k = op at *
          rw [hA]
          clear c3 c4
          have c3 := hRi.c3
          have c7 := hRi.c7
          have hli := hRi.lt
          clear hRi
          have hbl := World.block_lt_of_cell? _ _ q0
          have HC : Hid (∀ m, Calls Tryd.prog 35 #[.slice M.sA t.splits.length M.sc, .string op.key] ((wi.alloc (.cells #[.int .i64 op.kind, .string op.key, .string op.value, .int .i64 op.n] 60)).drewN m) fun e w' => e = .returned (.int .i64 (shardOf t.splits op.key)) ∧ ∃ n, w' = ((wi.alloc (.cells #[.int .i64 op.kind, .string op.key, .string op.value, .int .i64 op.n] 60)).drewN m).drewN n) :=
            Lib.hid fun m => refOf_any _ _ _ _ _ HR.out.scl ((((HR.out.below HB.out).below HBi.out).alloc _).drewN m).splRow (by omega)
          generalize shardOf t.splits op.key = sh at *
          generalize inK t q k = b0 at *
          cases b0 with
          | true =>
            have he : inK t q (k + 1) = true := by rw [HX.out]; rfl
            have HE := Lib.hid he
            clear he
            go_wp2_with fail
            go_quiet (fail)
            go_wp2_with fail
            go_roundw
            case rel => exact ⟨k + 1, by omega, by go_num, by rw [HE.out], Lib.hid (below_drewN (HBi.out.alloc HBi.out.size _) _)⟩
            case measure => simp [intOf]; omega
          | false =>
            by_cases hle : (k : Int) ≤ t.i
            · have hd : decide ((k : Int) ≤ t.i) = true := decide_eq_true hle
              by_cases hk6 : op.kind = 6
              · have hd1 : (op.kind == 6) = true := beq_iff_eq.2 hk6
                have hd2 : (op.kind != 6) = false := by simp [hk6]
                have he : inK t q (k + 1) = false := by rw [HX.out, decide_eq_true hk6]; simp
                have HE := Lib.hid he
                clear he hk6 hle
                go_wp2_with fail
                go_quiet (fail)
                go_wp2_with fail
                go_roundw
                case rel => exact ⟨k + 1, by omega, by go_num, by rw [HE.out], Lib.hid (below_drewN (HBi.out.alloc HBi.out.size _) _)⟩
                case measure => simp [intOf]; omega
              · have hd1 : (op.kind == 6) = false := by simpa using hk6
                have hd2 : (op.kind != 6) = true := by simpa using hk6
                have he : inK t q (k + 1) = ((sh : Int) == (q : Int)) := by
                  rw [HX.out, decide_eq_true hle, decide_eq_false hk6]
                  simp only [Bool.false_or, Bool.true_and, Bool.not_false]
                  by_cases h : sh = q
                  · subst h; simp
                  · have hz : (sh : Int) ≠ (q : Int) := by omega
                    rw [decide_eq_false h, (beq_eq_false_iff_ne).2 hz]
                have HE := Lib.hid he
                clear he hk6 hle
                go_wp2_with fail
                go_quiet ((go_at_call 35; exact Calls.quiet_of (HC.out _)))
                go_wp2_with fail
                go_roundw
                case rel => exact ⟨k + 1, by omega, by go_num, by rw [HE.out], Lib.hid (below_drewN (HBi.out.alloc HBi.out.size _) _)⟩
                case measure => simp [intOf]; omega
            · have hd : decide ((k : Int) ≤ t.i) = false := decide_eq_false hle
              have he : inK t q (k + 1) = false := by rw [HX.out, hd]; rfl
              have HE := Lib.hid he
              clear he hle
              go_wp2_with fail
              go_quiet (fail)
              go_wp2_with fail
              go_roundw
              case rel => exact ⟨k + 1, by omega, by go_num, by rw [HE.out], Lib.hid (below_drewN (HBi.out.alloc HBi.out.size _) _)⟩
              case measure => simp [intOf]; omega
        · obtain rfl : k = t.plan.length := by omega
          have hs := touQ_succ t q
          have hin := inK_all t q
          have HS := Lib.hid hs
          have HN := Lib.hid hin
          clear hs hin c3 c4
          have c7 := hRi.c7
          have hli := hRi.lt
          have HBw := Lib.hid (HB.out.trans (HBi.out.mono HB.out.size))
          have HOi := Lib.hid (own_below HO.out HBi.out)
          clear hRi
          generalize inK t q t.plan.length = b0 at *
          cases b0 with
          | false =>
            have he : touQ t (q + 1) = touQ t q := by rw [HS.out, ← HN.out, if_neg (by simp)]
            have HE := Lib.hid he
            clear he
            go_wp2_with fail
            go_roundw
            case rel => exact ⟨q + 1, by omega, by go_num, by rw [HE.out]; exact HOi, HBw⟩
            case measure => simp [intOf]; omega
          | true =>
            by_cases h0 : 0 ≤ t.i
            · have he : touQ t (q + 1) = touQ t q ++ [(q : Int)] := by rw [HS.out, ← HN.out, if_pos ⟨rfl, h0⟩]
              have HE := Lib.hid he
              have hlen := touQ_len t q
              clear he
              obtain ⟨hi, hz0, hz1, hz2⟩ := HI.out
              go_wp2_with (at_builtin; refine wpList_append_own _ rfl _ _ 67 rfl w.heap.size 3 i0 (.int .i64 0) 1 8 Tryd.underlying67 hi hz0 hz1 hz2 rfl (by decide) _ _ _ rfl (own_below HOi.out ((Below.refl _ _).alloc (Nat.le_refl _) _)) ⟨wi.heap.size, 0, none⟩ 1 1 [.int .i64 q] rfl rfl ?c1 ?c2 ?c3 ?c4 ?c5 ?_)
              case c1 => exact one_new _ _ _
              case c2 => intro u hu; simp at hu; subst hu; rfl
              case c3 => unfold maxLen; omega
              case c4 => omega
              case c5 => have := HBw.out.size; simp; omega
              intro v' w1 hown' hgrow _
              have hb1 : Below w.heap.size w w1 := (HBw.out.alloc HBw.out.size _).grown hgrow (by have := HBw.out.size; simp; omega) (fun k hk => (own_block HOi.out k hk).1)
              have hl1 : (touQ t (q + 1)).length = (touQ t q).length + 1 := by rw [HE.out]; simp
              have hr1 : intRow (touQ t (q + 1)) = intRow (touQ t q) ++ [.int .i64 q] := by rw [HE.out]; simp [intRow]
              rw [← hl1, ← hr1] at hown'
              have HO1 := Lib.hid hown'
              have HB1 := Lib.hid hb1
              clear hown' hgrow hb1 hl1 hr1 hi hz0 hz1 hz2
              go_wp2_with fail
              go_roundw
              case rel => exact ⟨q + 1, by omega, by go_num, HO1, HB1⟩
              case measure => simp [intOf]; omega
            · have he : touQ t (q + 1) = touQ t q := by rw [HS.out, if_neg (fun e => h0 e.2)]
              have HE := Lib.hid he
              clear he
              go_wp2_with fail
              go_roundw
              case rel => exact ⟨q + 1, by omega, by go_num, by rw [HE.out]; exact HOi, HBw⟩
              case measure => simp [intOf]; omega
    · obtain rfl : q = t.splits.length + 1 := by omega
      clear hRo
      go_wp2_with fail
      go_ret
      have ho := HO.out
      rw [touQ_all] at ho
      exact ⟨⟨_, rfl, ho⟩, HB.out⟩
end
end Go.Proofs.YtheecdjpbfkpdaaDoor
