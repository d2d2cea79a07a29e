/-
  The driver's memory, and what its methods do to it in plain Lean.
-/
import Derived.Test.YtheecdjpbfkpdaaDoorMem
import Derived.Test.YtheecdjpbfkpdaaDoorStr
namespace Go.Proofs.YtheecdjpbfkpdaaDoor
open Go.RowKit

structure OpS where
  kind : Int
  key : ByteArray
  value : ByteArray
  n : Int
structure ResS where
  v : ByteArray
  h : Bool
structure CmdS where
  kind : Int
  tx : Int
  attempt : Int
  stamp : Int
  op : Int
  key : ByteArray
  value : ByteArray
  mode : Int
  yes : Bool
structure RepS where
  code : Int
  state : Int
  v : ByteArray
  h : Bool
def OpS.zero : OpS := ⟨0, ⟨#[]⟩, ⟨#[]⟩, 0⟩
def ResS.zero : ResS := ⟨⟨#[]⟩, false⟩
def CmdS.val (c : CmdS) : Value := .agg #[.int .i64 c.kind, .int .i64 c.tx, .int .i64 c.attempt, .int .i64 c.stamp, .int .i64 c.op, .string c.key, .string c.value, .int .i64 c.mode, .bool c.yes]
def opCells (o : OpS) : List Value := [.int .i64 o.kind, .string o.key, .string o.value, .int .i64 o.n]
def resCells (r : ResS) : List Value := [.string r.v, .bool r.h]
def opRow (l : List OpS) : List Value := l.flatMap opCells
def resRow (l : List ResS) : List Value := l.flatMap resCells
def strRow (l : List ByteArray) : List Value := l.map Value.string
def intRow (l : List Int) : List Value := l.map (Value.int .i64)

theorem flat_length {α : Type} (f : α → List Value) (k : Nat) (hf : ∀ a, (f a).length = k) (l : List α) : (l.flatMap f).length = l.length * k := by
  induction l with
  | nil => simp
  | cons a l ih => simp [List.flatMap_cons, hf, ih, Nat.add_mul]; omega
theorem flat_get {α : Type} (f : α → List Value) (k : Nat) (hf : ∀ a, (f a).length = k) (l : List α) (i j : Nat) (x : α) (hx : l[i]? = some x) (hj : j < k) : (l.flatMap f)[i * k + j]? = (f x)[j]? := by
  induction l generalizing i with
  | nil => simp at hx
  | cons a l ih =>
    rw [List.flatMap_cons]
    cases i with
    | zero =>
      simp at hx
      subst hx
      rw [Nat.zero_mul, Nat.zero_add, List.getElem?_append_left (by rw [hf]; exact hj)]
    | succ i =>
      simp at hx
      rw [List.getElem?_append_right (by rw [hf, Nat.add_mul]; omega), hf, show (i + 1) * k + j - k = i * k + j from by rw [Nat.add_mul]; omega]
      exact ih i hx
theorem opRow_length (l : List OpS) : (opRow l).length = l.length * 4 := flat_length opCells 4 (fun _ => rfl) l
theorem resRow_length (l : List ResS) : (resRow l).length = l.length * 2 := flat_length resCells 2 (fun _ => rfl) l
theorem strRow_length (l : List ByteArray) : (strRow l).length = l.length * 1 := by simp [strRow]
theorem intRow_length (l : List Int) : (intRow l).length = l.length * 1 := by simp [intRow]

/-- A row that is read: at address A, n elements of sz cells, which are xs. -/
def Row (w : World) (A : Option Addr) (n sz : Nat) (xs : List Value) : Prop :=
  xs.length = n * sz ∧ (0 < n → ∃ ad, A = some ad ∧ ∀ j u, xs[j]? = some u → w.cell? (ad.add j) = some u)
theorem Row.below {w w' : World} {A : Option Addr} {n sz : Nat} {xs : List Value} (h : Row w A n sz xs) (hb : Below w.heap.size w w') : Row w' A n sz xs :=
  ⟨h.1, fun hn => by
    obtain ⟨ad, e, hc⟩ := h.2 hn
    exact ⟨ad, e, fun j u hu => (hb.cell (World.block_lt_of_cell? w _ (hc j u hu))).trans (hc j u hu)⟩⟩
theorem Row.of_own {w : World} {base n c : Nat} {e : TypeId} {sz : Nat} {A : Option Addr} {xs : List Value} (h : w.ownsRow base e sz (.slice A n c) n xs) : Row w A n sz xs := by
  refine ⟨h.1, fun hn => ?_⟩
  rcases h.2 with ⟨_, h0⟩ | ⟨g, cap, cur, hv, _⟩
  · omega
  · have hA : A = some ⟨g, 0, none⟩ := by injection hv
    subst hA
    exact ⟨_, rfl, h.cells (g := g) rfl⟩
theorem Row.nil (w : World) (A : Option Addr) (sz : Nat) : Row w A 0 sz [] := ⟨by simp, fun h => absurd h (by omega)⟩

theorem add_at (ad : Addr) (m j : Nat) (hj : 0 < j) : ad.add (m + j) = ⟨(ad.add m).block, (ad.add m).off + j, none⟩ := by
  unfold Addr.add
  by_cases hm : m = 0
  · subst hm; simp; omega
  · simp [hm, Nat.add_assoc]
/-- Element i of a row of operations, cell by cell, at the addresses that the walk types. -/
theorem Row.op {w : World} {A : Option Addr} {l : List OpS} (h : Row w A l.length 4 (opRow l)) (i : Nat) (o : OpS) (ho : l[i]? = some o) :
    ∃ ad, A = some ad ∧ w.cell? (ad.add (i * 4)) = some (.int .i64 o.kind) ∧ w.cell? ⟨(ad.add (i * 4)).block, (ad.add (i * 4)).off + 1, none⟩ = some (.string o.key) ∧
      w.cell? ⟨(ad.add (i * 4)).block, (ad.add (i * 4)).off + 2, none⟩ = some (.string o.value) ∧ w.cell? ⟨(ad.add (i * 4)).block, (ad.add (i * 4)).off + 3, none⟩ = some (.int .i64 o.n) := by
  have hi : i < l.length := (List.getElem?_eq_some_iff.1 ho).1
  obtain ⟨ad, e, hc⟩ := h.2 (by omega)
  have hg := fun j hj => flat_get opCells 4 (fun _ => rfl) l i j o ho hj
  exact ⟨ad, e, hc (i * 4) _ (by have := hg 0 (by omega); rw [Nat.add_zero] at this; exact this), by rw [← add_at _ _ 1 (by omega)]; exact hc _ _ (hg 1 (by omega)), by rw [← add_at _ _ 2 (by omega)]; exact hc _ _ (hg 2 (by omega)), by rw [← add_at _ _ 3 (by omega)]; exact hc _ _ (hg 3 (by omega))⟩
theorem Row.str {w : World} {A : Option Addr} {l : List ByteArray} (h : Row w A l.length 1 (strRow l)) (i : Nat) (o : ByteArray) (ho : l[i]? = some o) :
    ∃ ad, A = some ad ∧ w.cell? (ad.add i) = some (.string o) := by
  have hi : i < l.length := (List.getElem?_eq_some_iff.1 ho).1
  obtain ⟨ad, e, hc⟩ := h.2 (by omega)
  exact ⟨ad, e, hc i _ (by simp [strRow, ho])⟩
theorem Row.int {w : World} {A : Option Addr} {l : List Int} (h : Row w A l.length 1 (intRow l)) (i : Nat) (o : Int) (ho : l[i]? = some o) :
    ∃ ad, A = some ad ∧ w.cell? (ad.add i) = some (.int .i64 o) := by
  have hi : i < l.length := (List.getElem?_eq_some_iff.1 ho).1
  obtain ⟨ad, e, hc⟩ := h.2 (by omega)
  exact ⟨ad, e, hc i _ (by simp [intRow, ho])⟩

/-! The driver. -/
structure DS where
  tx : Int
  stamp : Int
  tries : Int
  splits : List ByteArray
  plan : List OpS
  attempt : Int
  phase : Int
  at_ : Int
  last : ResS
  write : ResS
  results : List ResS
  touched : List Int
  left : List Int
  outcome : Int
  quits : Bool
/-- Where its parts lie. -/
structure DL where
  gm : Nat
  sA : Option Addr
  sc : Nat
  pA : Option Addr
  pc : Nat
  rV : Value
  tV : Value
  lA : Option Addr
  lc : Nat
def drvCells (L : DL) (s : DS) : Array Value := #[.int .i64 s.tx, .int .i64 s.stamp, .int .i64 s.tries, .pointer (some ⟨L.gm, 0, none⟩), .slice L.pA s.plan.length L.pc, .int .i64 s.attempt, .int .i64 s.phase, .int .i64 s.at_, .string s.last.v, .bool s.last.h, .string s.write.v, .bool s.write.h, L.rV, L.tV, .slice L.lA s.left.length L.lc, .int .i64 s.outcome, .bool s.quits]
/-- left is a tail of touched, in touched's own row. -/
def LeftOk (L : DL) (s : DS) : Prop := s.left.length ≤ L.lc ∧ ∃ k, s.left = s.touched.drop k ∧ (s.left ≠ [] → ∃ g n c, L.tV = .slice (some ⟨g, 0, none⟩) n c ∧ L.lA = some ⟨g, k, none⟩)

structure Drv (w : World) (B g : Nat) (L : DL) (s : DS) : Prop where
  gB : B ≤ g
  blk : Blk w g 69 (drvCells L s)
  map : Blk w L.gm 63 #[.slice L.sA s.splits.length L.sc]
  spl : w.ownsRow B 9 1 (.slice L.sA s.splits.length L.sc) s.splits.length (strRow s.splits)
  pln : w.ownsRow B 60 4 (.slice L.pA s.plan.length L.pc) s.plan.length (opRow s.plan)
  res : w.ownsRow B 52 2 L.rV s.results.length (resRow s.results)
  tou : w.ownsRow B 3 1 L.tV s.touched.length (intRow s.touched)
  lef : s.phase = 7 → LeftOk L s
/-- What its methods may write. -/
def foot (g : Nat) (L : DL) (k : Nat) : Prop := k = g ∨ L.rV.ownBlock = some k ∨ L.tV.ownBlock = some k

section
variable {w w1 : World} {B g : Nat} {L : DL} {s : DS}
theorem Drv.lt (h : Drv w B g L s) : g < w.heap.size := h.blk.lt
theorem Drv.keep (h : Drv w B g L s) (hk : ∀ k, k < w.heap.size → w1.heap[k]? = w.heap[k]?) : Drv w1 B g L s :=
  ⟨h.gB, h.blk.keep (hk _ h.blk.lt), h.map.keep (hk _ h.map.lt), own_keep h.spl (fun k hb => hk k (own_block h.spl k hb).2.1), own_keep h.pln (fun k hb => hk k (own_block h.pln k hb).2.1),
    own_keep h.res (fun k hb => hk k (own_block h.res k hb).2.1), own_keep h.tou (fun k hb => hk k (own_block h.tou k hb).2.1), h.lef⟩
theorem Drv.below (h : Drv w B g L s) (hb : Below w.heap.size w w1) : Drv w1 B g L s := h.keep hb.block
theorem Drv.drew (h : Drv w B g L s) : Drv w.drew B g L s := h.keep (fun _ _ => rfl)
theorem Drv.drewN (h : Drv w B g L s) (n : Nat) : Drv (w.drewN n) B g L s := h.keep (fun _ _ => rfl)
theorem Drv.alloc (h : Drv w B g L s) (o : Obj) : Drv (w.alloc o) B g L s := h.keep (fun k hk => Below.heap_alloc w o k hk)
theorem Drv.c0 (h : Drv w B g L s) : w.cell? ⟨g, 0, none⟩ = some (.int .i64 s.tx) := h.blk.at_ 0 _ rfl
theorem Drv.c1 (h : Drv w B g L s) : w.cell? ⟨g, 1, none⟩ = some (.int .i64 s.stamp) := h.blk.at_ 1 _ rfl
theorem Drv.c2 (h : Drv w B g L s) : w.cell? ⟨g, 2, none⟩ = some (.int .i64 s.tries) := h.blk.at_ 2 _ rfl
theorem Drv.c3 (h : Drv w B g L s) : w.cell? ⟨g, 3, none⟩ = some (.pointer (some ⟨L.gm, 0, none⟩)) := h.blk.at_ 3 _ rfl
theorem Drv.c4 (h : Drv w B g L s) : w.cell? ⟨g, 4, none⟩ = some (.slice L.pA s.plan.length L.pc) := h.blk.at_ 4 _ rfl
theorem Drv.c5 (h : Drv w B g L s) : w.cell? ⟨g, 5, none⟩ = some (.int .i64 s.attempt) := h.blk.at_ 5 _ rfl
theorem Drv.c6 (h : Drv w B g L s) : w.cell? ⟨g, 6, none⟩ = some (.int .i64 s.phase) := h.blk.at_ 6 _ rfl
theorem Drv.c7 (h : Drv w B g L s) : w.cell? ⟨g, 7, none⟩ = some (.int .i64 s.at_) := h.blk.at_ 7 _ rfl
theorem Drv.c8 (h : Drv w B g L s) : w.cell? ⟨g, 8, none⟩ = some (.string s.last.v) := h.blk.at_ 8 _ rfl
theorem Drv.c9 (h : Drv w B g L s) : w.cell? ⟨g, 9, none⟩ = some (.bool s.last.h) := h.blk.at_ 9 _ rfl
theorem Drv.c10 (h : Drv w B g L s) : w.cell? ⟨g, 10, none⟩ = some (.string s.write.v) := h.blk.at_ 10 _ rfl
theorem Drv.c11 (h : Drv w B g L s) : w.cell? ⟨g, 11, none⟩ = some (.bool s.write.h) := h.blk.at_ 11 _ rfl
theorem Drv.c12 (h : Drv w B g L s) : w.cell? ⟨g, 12, none⟩ = some L.rV := h.blk.at_ 12 _ rfl
theorem Drv.c13 (h : Drv w B g L s) : w.cell? ⟨g, 13, none⟩ = some L.tV := h.blk.at_ 13 _ rfl
theorem Drv.c14 (h : Drv w B g L s) : w.cell? ⟨g, 14, none⟩ = some (.slice L.lA s.left.length L.lc) := h.blk.at_ 14 _ rfl
theorem Drv.c15 (h : Drv w B g L s) : w.cell? ⟨g, 15, none⟩ = some (.int .i64 s.outcome) := h.blk.at_ 15 _ rfl
theorem Drv.c16 (h : Drv w B g L s) : w.cell? ⟨g, 16, none⟩ = some (.bool s.quits) := h.blk.at_ 16 _ rfl
theorem Drv.fz (h : Drv w B g L s) (i : Nat) : w.frozen? ⟨g, i, none⟩ = false := h.blk.frozen i
theorem Drv.m0 (h : Drv w B g L s) : w.cell? ⟨L.gm, 0, none⟩ = some (.slice L.sA s.splits.length L.sc) := h.map.at_ 0 _ rfl
/-- A store into a block that isn't one of its own. -/
theorem Drv.farN (h : Drv w B g L s) {p : Addr} (hp : ∀ k, k < w.heap.size → p.block = k → ∃ t cs, Blk w k t cs ∧ t ≠ 69 ∧ t ≠ 63 ∧ t ≠ 9 ∧ t ≠ 60 ∧ t ≠ 52 ∧ t ≠ 3) (u : Value) : Drv (w.setCell p u) B g L s := by
  have hx : ∀ k t' cs', Blk w k t' cs' → (t' = 69 ∨ t' = 63 ∨ t' = 9 ∨ t' = 60 ∨ t' = 52 ∨ t' = 3) → (w.setCell p u).heap[k]? = w.heap[k]? := by
    intro k t' cs' hb ht
    refine Below.heap_setCell _ _ _ _ (fun e => ?_)
    obtain ⟨t, cs, hbt, h1, h2, h3, h4, h5, h6⟩ := hp k hb.lt e.symm
    have := (hb.inj hbt).2
    rcases ht with x | x | x | x | x | x <;> (rw [x] at this; simp_all)
  refine ⟨h.gB, h.blk.keep (hx _ _ _ h.blk (by simp)), h.map.keep (hx _ _ _ h.map (by simp)), own_keep h.spl (fun k hb => ?_), own_keep h.pln (fun k hb => ?_), own_keep h.res (fun k hb => ?_), own_keep h.tou (fun k hb => ?_), h.lef⟩
  · obtain ⟨_, _, cs, hc⟩ := own_block h.spl k hb; exact hx _ _ _ hc (by simp)
  · obtain ⟨_, _, cs, hc⟩ := own_block h.pln k hb; exact hx _ _ _ hc (by simp)
  · obtain ⟨_, _, cs, hc⟩ := own_block h.res k hb; exact hx _ _ _ hc (by simp)
  · obtain ⟨_, _, cs, hc⟩ := own_block h.tou k hb; exact hx _ _ _ hc (by simp)
theorem Drv.put (h : Drv w B g L s) (i : Nat) (u : Value) (s' : DS) (L' : DL) (he : (drvCells L s).setIfInBounds i u = drvCells L' s') (hm : L'.gm = L.gm) (ha : L'.sA = L.sA) (hc : L'.sc = L.sc) (hp : L'.pA = L.pA) (hq : L'.pc = L.pc) (hr : L'.rV = L.rV) (ht : L'.tV = L.tV)
    (h1 : s'.splits = s.splits) (h2 : s'.plan = s.plan) (h3 : s'.results = s.results) (h4 : s'.touched = s.touched) (h5 : s'.phase = 7 → LeftOk L' s') : Drv (w.setCell ⟨g, i, none⟩ u) B g L' s' := by
  refine ⟨h.gB, ?_, ?_, ?_, ?_, ?_, ?_, h5⟩
  · rw [← he]; exact h.blk.set_ i u
  · rw [hm, ha, hc, h1]; exact h.map.far (h.map.ne_ h.blk (by decide)) u
  · rw [ha, hc, h1]; exact own_setCell h.spl (p := ⟨g, i, none⟩) h.blk (by decide) u
  · rw [hp, hq, h2]; exact own_setCell h.pln (p := ⟨g, i, none⟩) h.blk (by decide) u
  · rw [hr, h3]; exact own_setCell h.res (p := ⟨g, i, none⟩) h.blk (by decide) u
  · rw [ht, h4]; exact own_setCell h.tou (p := ⟨g, i, none⟩) h.blk (by decide) u
theorem Drv.set0 (h : Drv w B g L s) (x : Int) : Drv (w.setCell ⟨g, 0, none⟩ (.int .i64 x)) B g L { s with tx := x } := h.put 0 _ _ _ rfl rfl rfl rfl rfl rfl rfl rfl rfl rfl rfl rfl (fun e => h.lef e)
theorem Drv.set1 (h : Drv w B g L s) (x : Int) : Drv (w.setCell ⟨g, 1, none⟩ (.int .i64 x)) B g L { s with stamp := x } := h.put 1 _ _ _ rfl rfl rfl rfl rfl rfl rfl rfl rfl rfl rfl rfl (fun e => h.lef e)
theorem Drv.set2 (h : Drv w B g L s) (x : Int) : Drv (w.setCell ⟨g, 2, none⟩ (.int .i64 x)) B g L { s with tries := x } := h.put 2 _ _ _ rfl rfl rfl rfl rfl rfl rfl rfl rfl rfl rfl rfl (fun e => h.lef e)
theorem Drv.set5 (h : Drv w B g L s) (x : Int) : Drv (w.setCell ⟨g, 5, none⟩ (.int .i64 x)) B g L { s with attempt := x } := h.put 5 _ _ _ rfl rfl rfl rfl rfl rfl rfl rfl rfl rfl rfl rfl (fun e => h.lef e)
theorem Drv.set6 (h : Drv w B g L s) (x : Int) (hx : x = 7 → LeftOk L { s with phase := x }) : Drv (w.setCell ⟨g, 6, none⟩ (.int .i64 x)) B g L { s with phase := x } := h.put 6 _ _ _ rfl rfl rfl rfl rfl rfl rfl rfl rfl rfl rfl rfl (hx)
theorem Drv.set7 (h : Drv w B g L s) (x : Int) : Drv (w.setCell ⟨g, 7, none⟩ (.int .i64 x)) B g L { s with at_ := x } := h.put 7 _ _ _ rfl rfl rfl rfl rfl rfl rfl rfl rfl rfl rfl rfl (fun e => h.lef e)
theorem Drv.set15 (h : Drv w B g L s) (x : Int) : Drv (w.setCell ⟨g, 15, none⟩ (.int .i64 x)) B g L { s with outcome := x } := h.put 15 _ _ _ rfl rfl rfl rfl rfl rfl rfl rfl rfl rfl rfl rfl (fun e => h.lef e)
theorem Drv.set16 (h : Drv w B g L s) (x : Bool) : Drv (w.setCell ⟨g, 16, none⟩ (.bool x)) B g L { s with quits := x } := h.put 16 _ _ _ rfl rfl rfl rfl rfl rfl rfl rfl rfl rfl rfl rfl (fun e => h.lef e)
theorem Drv.set8 (h : Drv w B g L s) (x : ByteArray) : Drv (w.setCell ⟨g, 8, none⟩ (.string x)) B g L { s with last := { s.last with v := x } } := h.put 8 _ _ _ rfl rfl rfl rfl rfl rfl rfl rfl rfl rfl rfl rfl (fun e => h.lef e)
theorem Drv.set9 (h : Drv w B g L s) (x : Bool) : Drv (w.setCell ⟨g, 9, none⟩ (.bool x)) B g L { s with last := { s.last with h := x } } := h.put 9 _ _ _ rfl rfl rfl rfl rfl rfl rfl rfl rfl rfl rfl rfl (fun e => h.lef e)
theorem Drv.set10 (h : Drv w B g L s) (x : ByteArray) : Drv (w.setCell ⟨g, 10, none⟩ (.string x)) B g L { s with write := { s.write with v := x } } := h.put 10 _ _ _ rfl rfl rfl rfl rfl rfl rfl rfl rfl rfl rfl rfl (fun e => h.lef e)
theorem Drv.set11 (h : Drv w B g L s) (x : Bool) : Drv (w.setCell ⟨g, 11, none⟩ (.bool x)) B g L { s with write := { s.write with h := x } } := h.put 11 _ _ _ rfl rfl rfl rfl rfl rfl rfl rfl rfl rfl rfl rfl (fun e => h.lef e)
/-- left turns. -/
theorem Drv.set14 (h : Drv w B g L s) (A : Option Addr) (l : List Int) (c : Nat) (hx : s.phase = 7 → LeftOk { L with lA := A, lc := c } { s with left := l }) : Drv (w.setCell ⟨g, 14, none⟩ (.slice A l.length c)) B g { L with lA := A, lc := c } { s with left := l } :=
  h.put 14 _ _ _ rfl rfl rfl rfl rfl rfl rfl rfl rfl rfl rfl rfl hx
/-- results is none. -/
theorem Drv.set12nil (h : Drv w B g L s) : Drv (w.setCell ⟨g, 12, none⟩ (.slice none 0 0)) B g { L with rV := .slice none 0 0 } { s with results := [] } := by
  refine ⟨h.gB, h.blk.set_ 12 _, h.map.far (h.map.ne_ h.blk (by decide)) _, own_setCell h.spl (p := ⟨g, 12, none⟩) h.blk (by decide) _, own_setCell h.pln (p := ⟨g, 12, none⟩) h.blk (by decide) _, ?_, own_setCell h.tou (p := ⟨g, 12, none⟩) h.blk (by decide) _, h.lef⟩
  exact World.ownsRow_nil _ _ _ _
/-- touched is none; left had no meaning. -/
theorem Drv.set13nil (h : Drv w B g L s) (hp : s.phase ≠ 7) : Drv (w.setCell ⟨g, 13, none⟩ (.slice none 0 0)) B g { L with tV := .slice none 0 0 } { s with touched := [] } := by
  refine ⟨h.gB, h.blk.set_ 13 _, h.map.far (h.map.ne_ h.blk (by decide)) _, own_setCell h.spl (p := ⟨g, 13, none⟩) h.blk (by decide) _, own_setCell h.pln (p := ⟨g, 13, none⟩) h.blk (by decide) _, own_setCell h.res (p := ⟨g, 13, none⟩) h.blk (by decide) _, ?_, fun e => absurd e hp⟩
  exact World.ownsRow_nil _ _ _ _
end
/-! What its methods do, in plain Lean. -/
def DS.op (s : DS) : OpS := s.plan.getD s.at_.toNat OpS.zero
def modeOf (o : OpS) : Int := if 2 ≤ o.kind ∧ o.kind ≤ 5 then 2 else if o.kind = 1 then 1 else 0
/-- What is known of it between two calls. -/
structure DOk (s : DS) : Prop where
  tx0 : 0 ≤ s.tx
  tx1 : s.tx ≤ 1048576
  at0 : 0 ≤ s.at_
  at1 : s.at_ ≤ 16
  ops : s.phase = 1 ∨ s.phase = 2 ∨ s.phase = 3 ∨ s.phase = 4 → s.at_ < s.plan.length
  att0 : 0 ≤ s.attempt
  att1 : s.attempt < s.tries
  tries1 : s.tries ≤ 1048576
  ph0 : 0 ≤ s.phase
  ph8 : s.phase ≤ 8
  left1 : s.phase = 7 → s.left ≠ []
  spl7 : s.splits.length ≤ 7
  pln16 : s.plan.length ≤ 16
  res16 : s.results.length ≤ 16
  tou8 : s.touched.length ≤ 16
theorem bcell {W w1 : World} (hb : Below W.heap.size W w1) : (∀ b o, b < W.heap.size → w1.cell? ⟨b, o, none⟩ = W.cell? ⟨b, o, none⟩) ∧ (∀ b o, b < W.heap.size → w1.frozen? ⟨b, o, none⟩ = W.frozen? ⟨b, o, none⟩) :=
  ⟨fun b o h => hb.cell (p := ⟨b, o, none⟩) h, fun b o h => hb.frozen (p := ⟨b, o, none⟩) h⟩
theorem DS.op_get {s : DS} (h0 : 0 ≤ s.at_) (h1 : s.at_ < s.plan.length) : s.plan[s.at_.toNat]? = some s.op := by
  unfold DS.op
  rw [List.getD_eq_getElem?_getD, List.getElem?_eq_getElem (by omega)]
  rfl
/-- The first of those that are left. -/
theorem left_cell {w : World} {B g : Nat} {L : DL} {s : DS} {l0 : Int} {lr : List Int} (hD : Drv w B g L s) (hp : s.phase = 7) (hl : s.left = l0 :: lr) :
    ∃ gt k, L.lA = some ⟨gt, k, none⟩ ∧ w.cell? ⟨gt, k, none⟩ = some (.int .i64 l0) := by
  obtain ⟨_, k, hk, hA⟩ := hD.lef hp
  obtain ⟨gt, n, c, hT, hA⟩ := hA (by rw [hl]; simp)
  refine ⟨gt, k, hA, ?_⟩
  have ho := hD.tou
  obtain ⟨A, c', hv, _⟩ := own_slice_form ho
  rw [hT] at hv ho
  injection hv with _ hn _
  subst hn
  refine own_cell ho k _ ?_
  have h0 : (s.touched.drop k)[0]? = some l0 := by rw [← hk, hl]; rfl
  rw [List.getElem?_drop] at h0
  simpa [intRow] using h0
/-- What a method leaves: the driver in its new state, its parts where they were or new. -/
def DPost (w : World) (B g : Nat) (L : DL) (s' : DS) (w' : World) : Prop := ∃ L', Drv w' B g L' s' ∧ Upd (foot g L) w w' ∧ ∀ k, foot g L' k → foot g L k ∨ w.heap.size ≤ k
theorem DPost.then_ {w w1 w2 : World} {B g : Nat} {L : DL} {s1 s2 : DS} (h : DPost w B g L s1 w1) (k : ∀ L1, Drv w1 B g L1 s1 → DPost w1 B g L1 s2 w2) : DPost w B g L s2 w2 := by
  obtain ⟨L1, hD1, hU1, hF1⟩ := h
  obtain ⟨L2, hD2, hU2, hF2⟩ := k L1 hD1
  refine ⟨L2, hD2, hU1.then_ hU2 hF1, fun i hi => ?_⟩
  rcases hF2 i hi with x | x
  · exact hF1 i x
  · exact .inr (Nat.le_trans hU1.size x)
theorem DPost.from_ {w w1 w2 : World} {B g : Nat} {L L1 : DL} {s2 : DS} (hU1 : Upd (foot g L) w w1) (hF1 : ∀ k, foot g L1 k → foot g L k ∨ w.heap.size ≤ k) (k : DPost w1 B g L1 s2 w2) : DPost w B g L s2 w2 := by
  obtain ⟨L2, hD2, hU2, hF2⟩ := k
  refine ⟨L2, hD2, hU1.then_ hU2 hF1, fun i hi => ?_⟩
  rcases hF2 i hi with x | x
  · exact hF1 i x
  · exact .inr (Nat.le_trans hU1.size x)
theorem DPost.from_same {w w1 w2 : World} {B g : Nat} {L L1 : DL} {s2 : DS} (hU1 : Upd (foot g L) w w1) (hr : L1.rV = L.rV) (ht : L1.tV = L.tV) (k : DPost w1 B g L1 s2 w2) : DPost w B g L s2 w2 :=
  DPost.from_ hU1 (fun i hi => .inl (by unfold foot at hi ⊢; rw [hr, ht] at hi; exact hi)) k
theorem DPost.same {w w' : World} {B g : Nat} {L L' : DL} {s' : DS} (hD : Drv w' B g L' s') (hU : Upd (foot g L) w w') (hr : L'.rV.ownBlock = none ∨ L'.rV = L.rV) (ht : L'.tV.ownBlock = none ∨ L'.tV = L.tV) : DPost w B g L s' w' :=
  ⟨L', hD, hU, fun k hk => .inl (by
    rcases hk with x | x | x
    · exact .inl x
    · rcases hr with y | y
      · rw [y] at x; cases x
      · rw [y] at x; exact .inr (.inl x)
    · rcases ht with y | y
      · rw [y] at x; cases x
      · rw [y] at x; exact .inr (.inr x))⟩
theorem Upd.at_g {w w1 : World} {g : Nat} {L : DL} {i : Nat} {u : Value} (h : Upd (foot g L) w w1) : Upd (foot g L) w (w1.setCell ⟨g, i, none⟩ u) := h.setCell (.inl (.inl rfl)) u

/-- What comes behind an attempt. -/
def DS.behind (s : DS) : DS :=
  if s.outcome = 2 then { s with phase := 8 }
  else if s.quits = true ∨ s.tries ≤ s.attempt + 1 then { s with phase := 8, results := [] }
  else { s with attempt := s.attempt + 1, phase := 0, outcome := 1, last := ResS.zero, results := [], touched := [], left := [] }
/-- The attempt ends. -/
def DS.ends (s : DS) (state : Int) : DS :=
  if s.touched = [] then { s with outcome := state, left := [], phase := 7 : DS }.behind
  else { s with outcome := state, left := s.touched, phase := 7 }
/-- A shard put into a rising list. -/
def insS (l : List Int) (x : Int) : List Int := if x ∈ l then l else l.take (l.countP (· < x)) ++ x :: l.drop (l.countP (· < x))
/-- An operation begins. -/
def DS.begins (s : DS) (at' : Int) : DS :=
  if (s.plan.length : Int) ≤ at' then { s with at_ := at', phase := 5 }
  else if (s.plan.getD at'.toNat OpS.zero).kind = 6 then { s with at_ := at', phase := 6, quits := true }
  else { s with at_ := at', phase := 1, touched := insS s.touched (shardOf s.splits (s.plan.getD at'.toNat OpS.zero).key) }
end Go.Proofs.YtheecdjpbfkpdaaDoor
