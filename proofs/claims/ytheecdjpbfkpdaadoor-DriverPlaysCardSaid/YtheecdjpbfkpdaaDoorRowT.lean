/-
  The arguments opened: rows of operations and of replies; what the row's own condition gives.
-/
import Derived.Test.YtheecdjpbfkpdaaDoorLaw1
import Derived.Test.YtheecdjpbfkpdaaDoorRows
import Derived.ProofKit
import Derived.OpenShut
import Derived.LaidMore
import Derived.LaidSub
import Derived.MakeChecks
import Derived.Carry
import Derived.Deep.Slices
import Derived.Deep.Fields
import Derived.ChangeSame
import Derived.Stop.LaidErr
import Derived.Lib.LaidTab
namespace Go.Proofs.YtheecdjpbfkpdaaDoor
open Go.ChangeShapes Go.WideShapes Go.ChangeAt Go.RowKit Go.Deep
set_option maxRecDepth 100000
set_option linter.unusedSimpArgs false
set_option linter.unusedVariables false

section
variable {H : Type} {enc : TypeId × Value → H} {P : Program} {w : World} {base : Nat} {spare : Nat → Bool} {held : Bool}
theorem open_slice_fields {t e : TypeId} {fs : Array Field} {fuel : Nat} {cs : List Value} {x : DataW H × List MemPlace} (ht : P.underlying t = some (.slice e)) (he : P.underlying e = some (.struct fs))
    (hone : oneCellFields P fs = true) (hC : P.cellsOf e = fs.size) (h : DataW.trod enc P w base spare held fuel t cs = some x) :
    (cs = [.slice none 0 0] ∧ x = (.nil, [])) ∨
    ∃ (a : Addr) (len cap m : Nat) (D : Nat → DataW H) (Pl : Nat → List MemPlace), cs = [.slice (some a) len cap] ∧ base ≤ a.block ∧ len ≤ cap ∧ cap ≤ maxLen ∧ m = (if spare a.block then cap else len) ∧
      x = (.slice ((List.range len).map D) ((List.range (m - len)).map fun j => D (len + j)), MemPlace.row a (m * fs.size) ++ (List.range m).flatMap Pl) ∧
      ∀ i, i < m → ∃ (ys : List (DataW H × List MemPlace)) (n : Nat), D i = .agg (ys.map (·.1)) ∧ Pl i = ys.flatMap (·.2) ∧ ys.length = fs.size ∧
        ∀ (j : Nat) (f : Field), fs[j]? = some f → ∃ (v : Value) (y : DataW H × List MemPlace), w.cell? (a.add (i * fs.size + j)) = some v ∧ ys[j]? = some y ∧ DataW.trod enc P w base spare held n f.type [v] = some y := by
  rcases open_slice ht h with h0 | ⟨a, len, cap, m, n, D, Pl, hcs, hb, hl, hm, hmm, hx, hi⟩
  · exact .inl h0
  · refine .inr ⟨a, len, cap, m, D, Pl, hcs, hb, hl, hm, hmm, by rw [hC] at hx; exact hx, fun i him => ?_⟩
    obtain ⟨cs', hc, ht'⟩ := hi i him
    rw [hC] at hc
    obtain ⟨ys, n', hn', hy, hlen, hyl, hf⟩ := DataW.trod_struct he ht'
    obtain ⟨_, hcl, hat⟩ := World.cells?_some hc
    simp only [Prod.mk.injEq] at hy
    refine ⟨ys, n', hy.1, hy.2, hyl, fun j f hj => ?_⟩
    obtain ⟨ho, hk⟩ := hone_of hone j f hj
    have hjl : j < fs.size := (Array.getElem?_eq_some_iff.1 hj).1
    have hcell := hat j hjl
    have hv : cs'[j]? = some (cs'[j]'(by omega)) := List.getElem?_eq_getElem (by omega)
    have h1 := hf j f hj
    rw [ho, hk] at h1
    have hone' : (cs'.drop j).take 1 = [cs'[j]'(by omega)] := by
      rw [List.drop_eq_getElem_cons (by omega)]
      rfl
    rw [hone'] at h1
    have hys : ys[j]? = some (ys[j]'(by omega)) := List.getElem?_eq_getElem (by omega)
    refine ⟨_, _, ?_, hys, h1.trans hys⟩
    rw [← Go.Deep.add_add, hcell, hv]
end

/-- A row built of its elements. -/
theorem row_of {α : Type} (f : α → List Value) (k : Nat) (hf : ∀ x, (f x).length = k) (Q : α → Prop) (w : World) (a : Addr) :
    ∀ n : Nat, (∀ i, i < n → ∃ x, Q x ∧ ∀ j u, (f x)[j]? = some u → w.cell? (a.add (i * k + j)) = some u) → ∃ l : List α, l.length = n ∧ (∀ x ∈ l, Q x) ∧ Row w (some a) n k (l.flatMap f) := by
  intro n
  induction n with
  | zero => intro _; exact ⟨[], rfl, fun x hx => absurd hx (by simp), ⟨by simp, fun h => absurd h (by omega)⟩⟩
  | succ n ih =>
    intro h
    obtain ⟨l, hl, hq, hr⟩ := ih (fun i hi => h i (by omega))
    obtain ⟨x, hx, hc⟩ := h n (by omega)
    have hlen : (l.flatMap f).length = n * k := hr.1
    refine ⟨l ++ [x], by simp [hl], fun y hy => ?_, ?_, fun _ => ⟨a, rfl, fun j u hj => ?_⟩⟩
    · rcases List.mem_append.1 hy with hy | hy
      · exact hq y hy
      · rw [List.mem_singleton.1 hy]; exact hx
    · rw [List.flatMap_append, List.length_append, hlen]
      simp [hf, Nat.add_mul]
    · rw [List.flatMap_append] at hj
      by_cases hlt : j < n * k
      · rw [List.getElem?_append_left (by omega)] at hj
        have hn : 0 < n := by
          rcases Nat.eq_zero_or_pos n with h0 | h0
          · rw [h0, Nat.zero_mul] at hlt; omega
          · exact h0
        obtain ⟨ad, e, hcell⟩ := hr.2 hn
        injection e with e
        rw [e]
        exact hcell j u hj
      · rw [List.getElem?_append_right (by omega), hlen] at hj
        have := hc (j - n * k) u (by simpa using hj)
        rwa [show n * k + (j - n * k) = j from by omega] at this

theorem cell1 {v u : Value} (h : [v] = [u]) : v = u := by injection h

section
variable {H : Type} {enc : TypeId × Value → H} {w : World} {base : Nat} {spare : Nat → Bool} {held : Bool}
theorem open_ops {fuel : Nat} {cs : List Value} {x : DataW H × List MemPlace} (h : DataW.trod enc Tryd.prog w base spare held fuel 22 cs = some x) :
    ∃ (A : Option Addr) (l : List OpS) (cap : Nat), cs = [.slice A l.length cap] ∧ l.length ≤ cap ∧ cap ≤ maxLen ∧ Row w A l.length 4 (opRow l) ∧ (∀ o ∈ l, o.key.size ≤ maxLen ∧ o.value.size ≤ maxLen) := by
  rcases open_slice_fields Tryd.underlying22 Tryd.underlying60 (by kernel_rfl) (by kernel_rfl) h with ⟨rfl, _⟩ | ⟨a, len, cap, m, D, Pl, rfl, _, hl, hm, hmm, _, hf⟩
  · exact ⟨none, [], 0, rfl, Nat.le_refl _, Nat.zero_le _, Row.nil _ _ _, fun o ho => by cases ho⟩
  · have hlm : len ≤ m := by rw [hmm]; split <;> omega
    obtain ⟨l, hll, hq, hr⟩ := row_of opCells 4 (fun _ => rfl) (fun o => o.key.size ≤ maxLen ∧ o.value.size ≤ maxLen) w a len (fun i hi => by
      obtain ⟨ys, n, _, _, _, hy⟩ := hf i (by omega)
      obtain ⟨v0, y0, c0, _, t0⟩ := hy 0 _ rfl
      obtain ⟨v1, y1, c1, _, t1⟩ := hy 1 _ rfl
      obtain ⟨v2, y2, c2, _, t2⟩ := hy 2 _ rfl
      obtain ⟨v3, y3, c3, _, t3⟩ := hy 3 _ rfl
      obtain ⟨k0, e0, _, _⟩ := DataW.trod_int Tryd.underlying3 t0
      obtain ⟨s1, e1, _, z1⟩ := DataW.trod_string Tryd.underlying9 t1
      obtain ⟨s2, e2, _, z2⟩ := DataW.trod_string Tryd.underlying9 t2
      obtain ⟨k3, e3, _, _⟩ := DataW.trod_int Tryd.underlying3 t3
      rw [cell1 e0] at c0; rw [cell1 e1] at c1; rw [cell1 e2] at c2; rw [cell1 e3] at c3
      refine ⟨⟨k0, s1, s2, k3⟩, ⟨z1, z2⟩, fun j u hj => ?_⟩
      match j, hj with
      | 0, hj => injection hj with hj; rw [← hj]; exact c0
      | 1, hj => injection hj with hj; rw [← hj]; exact c1
      | 2, hj => injection hj with hj; rw [← hj]; exact c2
      | 3, hj => injection hj with hj; rw [← hj]; exact c3)
    subst hll
    exact ⟨some a, l, cap, rfl, hl, hm, hr, hq⟩
theorem mem_weightsAll {H : Type} {P : Program} {e : TypeId} : ∀ {l : List (DataW H)} {d : DataW H} {x : Nat}, d ∈ l → x ∈ d.weights P e → x ∈ DataW.weightsAll P e l
  | d' :: r, d, x, hd, hx => by
    unfold DataW.weightsAll
    rcases List.mem_cons.1 hd with rfl | hd
    · exact List.mem_append_left _ hx
    · exact List.mem_append_right _ (mem_weightsAll hd hx)
theorem mem_weightsEach {H : Type} {P : Program} : ∀ {ts : List TypeId} {ds : List (DataW H)} {j : Nat} {t : TypeId} {d : DataW H} {x : Nat}, ts[j]? = some t → ds[j]? = some d → x ∈ d.weights P t → x ∈ DataW.weightsEach P ts ds
  | t' :: ts, d' :: ds, 0, t, d, x, ht, hd, hx => by
    unfold DataW.weightsEach
    injection ht with ht; injection hd with hd
    rw [ht, hd]
    exact List.mem_append_left _ hx
  | t' :: ts, d' :: ds, j + 1, t, d, x, ht, hd, hx => by
    unfold DataW.weightsEach
    exact List.mem_append_right _ (mem_weightsEach (j := j) ht hd hx)
/-- What a string in a slice of structs weighs. -/
theorem weigh_field {H : Type} {P : Program} {t e : TypeId} {fs : Array Field} {elems spare : List (DataW H)} {parts : List (DataW H)} {j : Nat} {f : Field} {bs : List UInt8} (ht : P.underlying t = some (.slice e)) (he : P.underlying e = some (.struct fs))
    (hd : DataW.agg parts ∈ elems) (hf : fs[j]? = some f) (hp : parts[j]? = some (.lit (.string bs))) : bs.length ∈ (DataW.slice elems spare).weights P t := by
  rw [DataW.weights, ht]
  refine List.mem_cons_of_mem _ (List.mem_append_left _ (mem_weightsAll hd ?_))
  rw [DataW.weights, he]
  refine mem_weightsEach (j := j) (t := f.type) (d := .lit (.string bs)) ?_ hp ?_
  · rw [List.getElem?_map, Array.getElem?_toList, hf]; rfl
  · rw [DataW.weights]; exact List.mem_singleton.2 rfl
theorem open_reps {fuel : Nat} {cs : List Value} {x : DataW H × List MemPlace} (h : DataW.trod enc Tryd.prog w base spare held fuel 23 cs = some x) :
    ∃ (A : Option Addr) (l : List RepS) (cap : Nat), cs = [.slice A l.length cap] ∧ l.length ≤ cap ∧ cap ≤ maxLen ∧ Row w A l.length 4 (repRow l) ∧ (∀ o ∈ l, o.v.size ∈ x.1.weights Tryd.prog 23) := by
  rcases open_slice_fields Tryd.underlying23 Tryd.underlying36 (by kernel_rfl) (by kernel_rfl) h with ⟨rfl, _⟩ | ⟨a, len, cap, m, D, Pl, rfl, _, hl, hm, hmm, hx, hf⟩
  · exact ⟨none, [], 0, rfl, Nat.le_refl _, Nat.zero_le _, Row.nil _ _ _, fun o ho => by cases ho⟩
  · have hlm : len ≤ m := by rw [hmm]; split <;> omega
    obtain ⟨l, hll, hq, hr⟩ := row_of repCells 4 (fun _ => rfl) (fun o => o.v.size ∈ x.1.weights Tryd.prog 23) w a len (fun i hi => by
      obtain ⟨ys, n, hD, _, _, hy⟩ := hf i (by omega)
      obtain ⟨v0, y0, c0, _, t0⟩ := hy 0 _ rfl
      obtain ⟨v1, y1, c1, _, t1⟩ := hy 1 _ rfl
      obtain ⟨v2, y2, c2, hy2, t2⟩ := hy 2 _ rfl
      obtain ⟨v3, y3, c3, _, t3⟩ := hy 3 _ rfl
      obtain ⟨k0, e0, _, _⟩ := DataW.trod_int Tryd.underlying27 t0
      obtain ⟨k1, e1, _, _⟩ := DataW.trod_int Tryd.underlying3 t1
      obtain ⟨s2, e2, w2, z2⟩ := DataW.trod_string Tryd.underlying9 t2
      obtain ⟨b3, e3, _⟩ := DataW.trod_bool Tryd.underlying4 t3
      rw [cell1 e0] at c0; rw [cell1 e1] at c1; rw [cell1 e2] at c2; rw [cell1 e3] at c3
      have hwt : s2.size ∈ x.1.weights Tryd.prog 23 := by
        have hlen : s2.data.toList.length = s2.size := by rw [Array.length_toList]; rfl
        rw [hx, ← hlen]
        refine weigh_field (j := 2) Tryd.underlying23 Tryd.underlying36 (parts := ys.map (·.1)) ?_ rfl ?_
        · rw [← hD]; exact List.mem_map.2 ⟨i, List.mem_range.2 hi, rfl⟩
        · rw [List.getElem?_map, hy2, w2]; rfl
      refine ⟨⟨k0, k1, s2, b3⟩, hwt, fun j u hj => ?_⟩
      match j, hj with
      | 0, hj => injection hj with hj; rw [← hj]; exact c0
      | 1, hj => injection hj with hj; rw [← hj]; exact c1
      | 2, hj => injection hj with hj; rw [← hj]; exact c2
      | 3, hj => injection hj with hj; rw [← hj]; exact c3)
    subst hll
    exact ⟨some a, l, cap, rfl, hl, hm, hr, hq⟩
end
theorem slice_addr {P : Program} {w : World} {r : Reach} {base : Nat} {t e : TypeId} {A : Option Addr} {n c : Nat} (ht : P.underlying t = some (.slice e)) (h : Value.okWide P w r base t (.slice A n c)) : A = none ∨ ∃ b off, A = some ⟨b, off, none⟩ := by
  simp only [Value.okWide, ht, Cell.okWide] at h
  rcases A with _ | ⟨b, off, spot⟩
  · exact .inl rfl
  · right
    simp only [Cell.ok, ht] at h
    obtain ⟨_, _, _, hs, _⟩ := h
    simp only at hs
    subst hs
    exact ⟨b, off, rfl⟩
theorem Glob.big {W : World} (h : Glob W) : 3 ≤ W.heap.size := by
  have ht := h.tab
  unfold Lib.TabIs World.var? at ht
  rw [show Tryd.prog.globalNamed "internal/strconv.uint64pow10" = some 2 by kernel_rfl] at ht
  simp only [Option.bind_some] at ht
  cases hh : W.heap[2]? with
  | none => rw [hh] at ht; cases ht
  | some o => exact (Array.getElem?_eq_some_iff.1 hh).1
end Go.Proofs.YtheecdjpbfkpdaaDoor
