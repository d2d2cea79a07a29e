/-
  slices.Insert of one number into a row of the call's own, out of the shelf's four contracts.
-/
import Derived.Test.YtheecdjpbfkpdaaDoorShelfDrv
import Derived.Test.YtheecdjpbfkpdaaDoorDrv
namespace Go.Proofs.YtheecdjpbfkpdaaDoor
open Go.RowKit
set_option linter.unusedSimpArgs false
set_option linter.unusedVariables false

theorem blk_setCells {b : Nat} {t : TypeId} : ∀ (vs : List Value) (o : Nat) (w : World) (cur : Array Value), Blk w b t cur → o + vs.length ≤ cur.size →
    ∃ cur', Blk (w.setCells b o vs) b t cur' ∧ cur'.size = cur.size ∧ cur'.toList = cur.toList.take o ++ vs ++ cur.toList.drop (o + vs.length) := by
  intro vs
  induction vs with
  | nil => intro o w cur h _; exact ⟨cur, h, rfl, by simp⟩
  | cons v r ih =>
    intro o w cur h hl
    simp only [List.length_cons] at hl
    obtain ⟨cur', h1, h2, h3⟩ := ih (o + 1) (w.setCell ⟨b, o, none⟩ v) (cur.setIfInBounds o v) (h.set_ o v) (by rw [Array.size_setIfInBounds]; omega)
    refine ⟨cur', h1, by rw [h2, Array.size_setIfInBounds], ?_⟩
    rw [h3]
    have e1 : (cur.setIfInBounds o v).toList = cur.toList.set o v := by simp
    rw [e1, List.take_set, List.drop_set_of_lt (by omega)]
    have e2 : (cur.toList.take (o + 1)).set o v = cur.toList.take o ++ [v] := by
      have hlen : o < cur.toList.length := by simp; omega
      rw [List.take_succ_eq_append_getElem hlen, List.set_append_right _ _ (by simp; omega)]
      congr 1
      have : o - (List.take o cur.toList).length = 0 := by simp; omega
      rw [this]
      rfl
    rw [e2]
    simp [Nat.add_assoc, Nat.add_comm 1]
theorem setCells_heap (b : Nat) : ∀ (vs : List Value) (o : Nat) (w : World), (w.setCells b o vs).os = w.os ∧ (w.setCells b o vs).tape = w.tape ∧ (w.setCells b o vs).output = w.output ∧ (w.setCells b o vs).heap.size = w.heap.size ∧ ∀ k, k ≠ b → (w.setCells b o vs).heap[k]? = w.heap[k]? := by
  intro vs
  induction vs with
  | nil => intro o w; exact ⟨rfl, rfl, rfl, rfl, fun _ _ => rfl⟩
  | cons v r ih =>
    intro o w
    obtain ⟨h1, h2, h3, h4, h5⟩ := ih (o + 1) (w.setCell ⟨b, o, none⟩ v)
    exact ⟨h1, h2, h3, h4.trans (by simp [World.setCell]), fun k hk => (h5 k hk).trans (Below.heap_setCell _ _ _ _ hk)⟩
theorem grown_setCells {w0 w : World} {b : Nat} (h : w0.grownBy w (some b)) (o : Nat) (vs : List Value) : w0.grownBy (w.setCells b o vs) (some b) := by
  obtain ⟨h1, h2, h3, h4, h5⟩ := setCells_heap b vs o w
  exact ⟨h1.trans h.os, h2.trans h.tape, h3.trans h.output, by rw [h4]; exact h.size, fun k hk hn => (h5 k (fun e => hn (by rw [e]))).trans (h.block k hk hn)⟩
theorem grown_refl (w : World) (row : Option Nat) : w.grownBy w row := ⟨rfl, rfl, rfl, Nat.le_refl _, fun _ _ _ => rfl⟩
theorem grown_drew {w0 w : World} {row : Option Nat} (h : w0.grownBy w row) : w0.grownBy w.drew row := ⟨h.os, h.tape, h.output, h.size, h.block⟩
theorem grown_dalloc (w : World) (o : Obj) (row : Option Nat) : w.grownBy (w.drew.alloc o) row := ⟨rfl, rfl, rfl, by simp, fun k hk _ => Below.heap_alloc w.drew _ k hk⟩
theorem one_ints (l : List Int) : ∀ v ∈ intRow l, v.oneCell' = true := by
  intro v hv
  simp only [intRow, List.mem_map] at hv
  obtain ⟨x, _, rfl⟩ := hv
  rfl

theorem insert_any (B : Nat) (v : Value) (l : List Int) (i : Nat) (x : Int) (vb vc : Nat) (w : World) (hB : B ≤ w.heap.size) (h : w.ownsRow B 3 1 v l.length (intRow l)) (hi : i ≤ l.length) (hl : l.length ≤ 4096)
    (hb : Blk w vb 3 #[.int .i64 x]) (hne : v.ownBlock ≠ some vb) :
    Calls Tryd.prog 55 #[v, .int .i64 i, .slice (some ⟨vb, 0, none⟩) 1 vc] w fun e w' => ∃ v', e = .returned v' ∧ w'.ownsRow B 3 1 v' (l.take i ++ x :: l.drop i).length (intRow (l.take i ++ x :: l.drop i)) ∧ w.grownBy w' v.ownBlock ∧
      (v'.ownBlock = v.ownBlock ∨ v'.ownBlock = some w.heap.size) := by
  have e3 : Tryd.laysInsInt_ren.t 3 = 3 := rfl
  have hlen : (l.take i ++ x :: l.drop i).length = l.length + 1 := by simp; omega
  have hvs : ∀ j u, [Value.int .i64 x][j]? = some u → w.cell? ⟨vb, 0 + j, none⟩ = some u := by
    intro j u hj
    rw [Nat.zero_add, hb.cell j]
    simpa using hj
  have hint : intRow (l.take i ++ x :: l.drop i) = (intRow l).take i ++ [.int .i64 x] ++ (intRow l).drop i := by simp [intRow, List.map_take, List.map_drop]
  have hrl : (intRow l).length = l.length := by simp [intRow]
  have hone : ∀ u ∈ [Value.int .i64 x], u.oneCell' = true := by
    intro u hu
    simp only [List.mem_cons, List.not_mem_nil, or_false] at hu
    subst hu
    rfl
  rcases h.2 with ⟨rfl, h0⟩ | ⟨b, c, cur, rfl, hg, hbb, hnc, hcm, hcs, htk⟩
  · -- nil
    have hl0 : l = [] := List.eq_nil_of_length_eq_zero h0
    subst hl0
    have hi0 : i = 0 := by simpa using hi
    subst hi0
    refine (Any2.slices_Insert_int_end_grow Tryd.laysInsInt none 0 0 vb 0 1 vc [] [.int .i64 x] w (by omega) (by omega) (by omega) (by omega) rfl rfl (fun _ => rfl) (fun a ha => by cases ha) hvs hone).mono ?_
    rintro e w' ⟨rfl, rfl⟩
    rw [e3]
    refine ⟨_, rfl, ⟨by simp [intRow], .inr ⟨w.heap.size, _, _, rfl, hB, Blk.new w.drew _ _, grownCap_ge _ _ _ _, grownCap_le_maxLen _ _ _ _ (by unfold maxLen; omega), ?_, ?_⟩⟩, grown_dalloc _ _ _, .inr rfl⟩
    · have := grownCap_ge w (0 + 1) 0 3
      simp only [Array.size_append, size_zeroCells, List.append_nil, List.nil_append]
      simp [Value.cells] at *
      omega
    · simp [intRow]
  · have hblk : Blk w b 3 cur := hbb
    have hcl : cur.size = c := by omega
    have htk' : cur.toList.take l.length = intRow l := by rw [← htk, Nat.mul_one]
    have hcells : ∀ j u, (intRow l)[j]? = some u → w.cell? ⟨b, 0 + j, none⟩ = some u := by
      intro j u hj
      rw [Nat.zero_add]
      exact own_cell h j u hj
    have hsome : ∀ j, j < c → (w.cell? ⟨b, j, none⟩).isSome = true := by
      intro j hj
      rw [hblk.cell j, Array.getElem?_eq_getElem (by omega)]
      rfl
    have hvb : vb ≠ b := fun e => hne (by rw [e]; rfl)
    have hm : maxLen = 9223372036854775807 := rfl
    by_cases hin : i < l.length
    · by_cases hroom : l.length + 1 ≤ c
      · refine (Any2.slices_Insert_int_shift Tryd.laysInsInt b 0 l.length c i vb 0 1 vc (intRow l) [.int .i64 x] w hin (by omega) hroom (by omega) hvb hrl rfl hcells (fun j hj => by rw [Nat.zero_add]; exact hsome j (by omega)) (fun j _ => hblk.frozen _) hvs (one_ints l) hone 3 3 1 c
          (by unfold Blk at hb; simp [World.shape?, hb]) (by unfold Blk at hblk; simp [World.shape?, hblk, hcl]) (by omega) (hb.frozen 0) (hb.frozen 1)).mono ?_
        rintro e w' ⟨rfl, rfl⟩
        obtain ⟨cur1, k1, k2, k3⟩ := blk_setCells ((intRow l).drop i) (0 + (i + 1)) w.drew cur hblk (by simp [hrl]; omega)
        obtain ⟨cur2, m1, m2, m3⟩ := blk_setCells [.int .i64 x] (0 + i) _ cur1 k1 (by simp; omega)
        refine ⟨_, rfl, ⟨by rw [intRow_length], .inr ⟨b, c, cur2, by rw [hlen], hg, m1, by omega, hcm, by omega, ?_⟩⟩, grown_setCells (grown_setCells (grown_drew (grown_refl _ _)) _ _) _ _, .inl rfl⟩
        rw [m3, k3, hint, Nat.mul_one, hlen]
        have e1 : (cur.toList.take (i + 1)).take i = (intRow l).take i := by rw [List.take_take, ← htk', List.take_take]; congr 1; omega
        have hA : (cur.toList.take (0 + (i + 1))).length = i + 1 := by simp; omega
        have e2 : (cur.toList.take (0 + (i + 1)) ++ (intRow l).drop i ++ cur.toList.drop (0 + (i + 1) + ((intRow l).drop i).length)).take (0 + i) = (intRow l).take i := by
          rw [List.append_assoc, List.take_append_of_le_length (by omega), Nat.zero_add, Nat.zero_add]
          exact e1
        have e3 : (cur.toList.take (0 + (i + 1)) ++ (intRow l).drop i ++ cur.toList.drop (0 + (i + 1) + ((intRow l).drop i).length)).drop (0 + i + [Value.int .i64 x].length) = (intRow l).drop i ++ cur.toList.drop (0 + (i + 1) + ((intRow l).drop i).length) := by
          rw [List.append_assoc, show 0 + i + [Value.int .i64 x].length = (cur.toList.take (0 + (i + 1))).length from by rw [hA]; simp, List.drop_left]
        rw [e2, e3, ← List.append_assoc]
        have hL : ((intRow l).take i ++ [Value.int .i64 x] ++ (intRow l).drop i).length = l.length + 1 := by simp [hrl]; omega
        rw [List.take_append_of_le_length (by omega), ← hL, List.take_length]
      · refine (Any2.slices_Insert_int_grow Tryd.laysInsInt b 0 l.length c i vb 0 1 vc (intRow l) [.int .i64 x] w hin (by omega) hnc (by omega) (by omega) hrl rfl hcells hvs (one_ints l) hone).mono ?_
        rintro e w' ⟨rfl, rfl⟩
        rw [e3]
        have hcap := grownCap_ge w (l.length + 1) c 3
        have k0 : Blk (w.alloc (.cells (((intRow l).take i).toArray ++ Builtin.zeroCells (Value.int .i64 0).cells (l.length + 1 - i) ++ Builtin.zeroCells (Value.int .i64 0).cells (grownCap w (l.length + 1) c 3 - (l.length + 1))) 3)) w.heap.size 3 _ := Blk.new w _ _
        generalize hN : (((intRow l).take i).toArray ++ Builtin.zeroCells (Value.int .i64 0).cells (l.length + 1 - i) ++ Builtin.zeroCells (Value.int .i64 0).cells (grownCap w (l.length + 1) c 3 - (l.length + 1))) = cur0 at k0
        have hsz : cur0.size = grownCap w (l.length + 1) c 3 := by
          rw [← hN]
          simp only [Array.size_append, size_zeroCells]
          simp [Value.cells, hrl]
          omega
        have hh0 : cur0.toList.take i = (intRow l).take i := by
          rw [← hN]
          simp only [Array.toList_append, List.append_assoc]
          rw [List.take_append_of_le_length (by simp only [List.length_take, hrl]; omega)]
          exact List.take_of_length_le (by simp only [List.length_take]; omega)
        obtain ⟨cur1, k1, k2, k3⟩ := blk_setCells [.int .i64 x] i _ cur0 (k0.drew) (by rw [hsz]; simp only [List.length_cons, List.length_nil]; omega)
        obtain ⟨cur2, m1, m2, m3⟩ := blk_setCells ((intRow l).drop i) (i + 1) _ cur1 (k1.drew) (by rw [k2, hsz, List.length_drop, hrl]; omega)
        have hgr : w.grownBy ((((w.alloc (.cells cur0 3)).drew.setCells w.heap.size i [.int .i64 x]).drew).setCells w.heap.size (i + 1) ((intRow l).drop i)) (some b) := by
          obtain ⟨a1, a2, a3, a4, a5⟩ := setCells_heap w.heap.size [.int .i64 x] i (w.alloc (.cells cur0 3)).drew
          obtain ⟨b1, b2, b3, b4, b5⟩ := setCells_heap w.heap.size ((intRow l).drop i) (i + 1) ((w.alloc (.cells cur0 3)).drew.setCells w.heap.size i [.int .i64 x]).drew
          refine ⟨b1.trans a1, b2.trans a2, b3.trans a3, ?_, fun k hk _ => (b5 k (by omega)).trans ((a5 k (by omega)).trans (Below.heap_alloc w _ k hk))⟩
          rw [b4]
          show w.heap.size ≤ (World.setCells _ _ _ _).heap.size
          rw [a4]
          simp
        refine ⟨_, rfl, ⟨by rw [intRow_length], .inr ⟨w.heap.size, _, cur2, by rw [hlen], hB, m1, by rw [hlen]; exact hcap, grownCap_le_maxLen _ _ _ _ (by rw [hm]; omega), by omega, ?_⟩⟩, hgr, .inr rfl⟩
        rw [m3, k3, hint, Nat.mul_one, hlen]
        have e0 : (cur0.toList.take i ++ [Value.int .i64 x] ++ cur0.toList.drop (i + [Value.int .i64 x].length)).take (i + 1) = cur0.toList.take i ++ [Value.int .i64 x] := by
          rw [List.take_append_of_le_length (by simp; omega)]
          apply List.take_of_length_le
          simp
          omega
        rw [e0, hh0]
        have hL : ((intRow l).take i ++ [Value.int .i64 x] ++ (intRow l).drop i).length = l.length + 1 := by simp [hrl]; omega
        rw [List.take_append_of_le_length (by omega), ← hL, List.take_length]
    · obtain rfl : i = l.length := by omega
      by_cases hroom : l.length + 1 ≤ c
      · refine (Any2.slices_Insert_int_end_room Tryd.laysInsInt b 0 l.length c vb 0 1 vc [.int .i64 x] w (by omega) hroom (by omega) rfl (fun j hj => hsome _ (by omega)) (fun j _ => hblk.frozen _) hvs hone).mono ?_
        rintro e w' ⟨rfl, rfl⟩
        obtain ⟨cur1, k1, k2, k3⟩ := blk_setCells [.int .i64 x] (0 + l.length) w cur hblk (by simp; omega)
        refine ⟨_, rfl, ⟨by rw [intRow_length], .inr ⟨b, c, cur1, by rw [hlen], hg, k1, by omega, hcm, by omega, ?_⟩⟩, grown_setCells (grown_refl _ _) _ _, .inl rfl⟩
        rw [k3, hint, Nat.mul_one, hlen, Nat.zero_add, htk']
        have e1 : (intRow l).take l.length = intRow l := by rw [← hrl, List.take_length]
        have e2 : (intRow l).drop l.length = [] := by rw [← hrl, List.drop_length]
        rw [e1, e2, List.append_nil, List.take_append_of_le_length (by simp [hrl])]
        apply List.take_of_length_le
        simp [hrl]
      · refine (Any2.slices_Insert_int_end_grow Tryd.laysInsInt (some ⟨b, 0, none⟩) l.length c vb 0 1 vc (intRow l) [.int .i64 x] w (by omega) hnc (by omega) (by omega) hrl rfl (fun e => by cases e) (fun a ha j u hj => by injection ha with ha; subst ha; exact h.cells (g := b) rfl j u hj) hvs hone).mono ?_
        rintro e w' ⟨rfl, rfl⟩
        rw [e3]
        have hcap := grownCap_ge w (l.length + 1) c 3
        refine ⟨_, rfl, ⟨by rw [intRow_length], .inr ⟨w.heap.size, _, _, by rw [hlen], hB, Blk.new w.drew _ _, by rw [hlen]; exact hcap, grownCap_le_maxLen _ _ _ _ (by rw [hm]; omega), ?_, ?_⟩⟩, grown_dalloc _ _ _, .inr rfl⟩
        · simp only [Array.size_append, size_zeroCells]
          simp [Value.cells, hrl]
          omega
        · rw [hint, Nat.mul_one, hlen]
          have e1 : (intRow l).take l.length = intRow l := by rw [← hrl, List.take_length]
          have e2 : (intRow l).drop l.length = [] := by rw [← hrl, List.drop_length]
          rw [e1, e2, List.append_nil]
          simp only [Array.toList_append]
          rw [List.take_append_of_le_length (by simp [hrl])]
          apply List.take_of_length_le
          simp [hrl]
end Go.Proofs.YtheecdjpbfkpdaaDoor
