/-
  Walks: route.Map.Of by sort.Search.
-/
import Derived.Test.YtheecdjpbfkpdaaDoorDw1
import Derived.Test.YtheecdjpbfkpdaaDoorStr
import Derived.Deep.LoopGhost
namespace Go.Proofs.YtheecdjpbfkpdaaDoor
open Go.RowKit
set_option maxRecDepth 100000
set_option linter.unusedSimpArgs false
set_option linter.unusedVariables false

set_option maxHeartbeats 400000 in
theorem of1_any (i : Nat) (bm bk gm c : Nat) (l : List ByteArray) (A : Option Addr) (key : ByteArray) (W : World) (hi : i < l.length) (hl : l.length ≤ 7)
    (h1 : W.cell? ⟨bm, 0, none⟩ = some (.pointer (some ⟨gm, 0, none⟩))) (h2 : W.cell? ⟨bk, 0, none⟩ = some (.string key)) (h3 : W.cell? ⟨gm, 0, none⟩ = some (.slice A l.length c)) (hr : Row W A l.length 1 (strRow l)) :
    Calls Tryd.prog 52 #[.int .i64 i, .pointer (some ⟨bm, 0, none⟩), .pointer (some ⟨bk, 0, none⟩)] W fun e w' => e = .returned (.bool (!leS (l.getD i ⟨#[]⟩) key)) ∧ ∃ n, w' = W.drewN n := by
  obtain ⟨ad, rfl, hc⟩ := hr.str i (l.getD i ⟨#[]⟩) (by rw [List.getD_eq_getElem?_getD, List.getElem?_eq_getElem hi]; rfl)
  generalize l.getD i ⟨#[]⟩ = s at hc ⊢
  clear hr
  have hiz : (i : Int) < (l.length : Int) := by omega
  go_enter Tryd.func52, Tryd.ntmps52
  go_wp2
  go_quiet (fail)
  go_wp2
  go_ret
  exact ⟨by show Ending.returned (.bool _) = _; simp [leS], _, rfl⟩

set_option maxHeartbeats 800000 in
theorem search_any (cb : Array Value) (n : Nat) (p : Nat → Bool) (w : World) (hsz : n ≤ 4096)
    (hf : ∀ (m : Nat) (i : Nat), i < n → Calls Tryd.prog 52 (#[.int .i64 i] ++ cb) (w.drewN m) fun e w' => e = .returned (.bool (p i)) ∧ ∃ q, w' = (w.drewN m).drewN q)
    (hmono : ∀ a b, a ≤ b → b < n → p a = true → p b = true) :
    Calls Tryd.prog 51 #[.int .i64 n, .func (.func 52) #[] cb] w fun e w' => (∃ k : Nat, e = .returned (.int .i64 k) ∧ k ≤ n ∧ (∀ t, t < k → p t = false) ∧ (∀ t, k ≤ t → t < n → p t = true)) ∧ ∃ q, w' = w.drewN q := by
  have HF := Lib.hid hf
  have M := Lib.hid hmono
  clear hf hmono
  go_enter Tryd.func51, Tryd.ntmps51
  go_wp2
  go_loopg [5, 6] n (fun kx s5 s6 wr => ∃ (lo hi q : Nat), s5 = .int .i64 lo ∧ s6 = .int .i64 hi ∧ lo ≤ hi ∧ hi ≤ n ∧ hi - lo ≤ kx ∧ wr = w.drewN q ∧
    Hid ((∀ t, t < lo → p t = false) ∧ (∀ t, hi ≤ t → t < n → p t = true)))
  case atStart => exact ⟨0, n, 0, rfl, rfl, Nat.zero_le _, Nat.le_refl _, by omega, rfl, ⟨fun t ht => absurd ht (Nat.not_lt_zero _), fun t h1 h2 => by omega⟩⟩
  case round =>
    obtain ⟨lo, hi, q, rfl, rfl, hlh, hin, hg, rfl, I⟩ := hrel
    by_cases hlt : lo < hi
    · have hc := HF.out q ((lo + hi) / 2) (by omega)
      rw [show (((lo + hi) / 2 : Nat) : Int) = ((lo : Int) + (hi : Int)) / 2 by omega] at hc
      cases hp : p ((lo + hi) / 2) <;> rw [hp] at hc
      · have HP : Hid (p ((lo + hi) / 2) = false) := hp
        clear hp
        go_wp2_with (go_at_call 52; refine hc.mono ?_; rintro e w' ⟨rfl, nq, rfl⟩)
        go_roundg (hi - ((lo + hi) / 2 + 1))
        case measure => omega
        case rel =>
          have I2 : Hid ((∀ t, t < (lo + hi) / 2 + 1 → p t = false) ∧ (∀ t, hi ≤ t → t < n → p t = true)) := ⟨fun t ht => (by
            cases h : p t with
            | false => rfl
            | true => have := M.out t ((lo + hi) / 2) (by omega) (by omega) h; rw [HP.out] at this; cases this), I.out.2⟩
          exact ⟨(lo + hi) / 2 + 1, hi, q + nq, by rw [show ((lo : Int) + (hi : Int)) / 2 + 1 = (((lo + hi) / 2 + 1 : Nat) : Int) by omega], rfl, by omega, hin, Nat.le_refl _, rfl, I2⟩
      · have HP : Hid (p ((lo + hi) / 2) = true) := hp
        clear hp
        go_wp2_with (go_at_call 52; refine hc.mono ?_; rintro e w' ⟨rfl, nq, rfl⟩)
        go_roundg ((lo + hi) / 2 - lo)
        case measure => omega
        case rel =>
          have I2 : Hid ((∀ t, t < lo → p t = false) ∧ (∀ t, (lo + hi) / 2 ≤ t → t < n → p t = true)) := ⟨I.out.1, fun t ht htn => M.out ((lo + hi) / 2) t ht htn HP.out⟩
          exact ⟨lo, (lo + hi) / 2, q + nq, rfl, by rw [show ((lo : Int) + (hi : Int)) / 2 = (((lo + hi) / 2 : Nat) : Int) by omega], by omega, by omega, Nat.le_refl _, rfl, I2⟩
    · obtain rfl : hi = lo := by omega
      go_wp2
      go_ret
      exact ⟨⟨hi, rfl, hin, I.out.1, I.out.2⟩, q, rfl⟩

theorem cell_new1 (w : World) (v : Value) (t : TypeId) : (w.alloc (.cells #[v] t)).cell? ⟨w.heap.size, 0, none⟩ = some v := (Blk.new w t #[v]).at_ 0 v rfl
theorem cell_alloc {w : World} {a : Addr} {v : Value} (h : w.cell? a = some v) (o : Obj) : (w.alloc o).cell? a = some v := (World.cell?_alloc_lt w o a (World.block_lt_of_cell? w a h)).trans h

set_option maxHeartbeats 400000 in
/-- The map's Of, wherever the map lies. -/
theorem mapOf_any (gm c : Nat) (l : List ByteArray) (A : Option Addr) (key : ByteArray) (w : World) (hs : l.length ≤ 7) (hR : Rise l)
    (h3 : w.cell? ⟨gm, 0, none⟩ = some (.slice A l.length c)) (hr : Row w A l.length 1 (strRow l)) :
    Calls Tryd.prog 44 #[.pointer (some ⟨gm, 0, none⟩), .string key] w fun e w' => e = .returned (.int .i64 (shardOf l key)) ∧ Below w.heap.size w w' := by
  have hx : ∃ o1 o2, o1 = Obj.cells #[.pointer (some ⟨gm, 0, none⟩)] 26 ∧ o2 = Obj.cells #[.string key] 9 := ⟨_, _, rfl, rfl⟩
  obtain ⟨o1, o2, e1, e2⟩ := hx
  have hb : Below w.heap.size w ((w.alloc o1).alloc o2) := ((Below.refl _ _).alloc (Nat.le_refl _) _).alloc (by simp) _
  have k1 : ((w.alloc o1).alloc o2).cell? ⟨w.heap.size, 0, none⟩ = some (.pointer (some ⟨gm, 0, none⟩)) := cell_alloc (by rw [e1]; exact cell_new1 _ _ _) _
  have k2 : ((w.alloc o1).alloc o2).cell? ⟨w.heap.size + 1, 0, none⟩ = some (.string key) := by
    have := cell_new1 (w.alloc o1) (.string key) 9
    rw [show (w.alloc o1).heap.size = w.heap.size + 1 from by simp] at this
    rw [e2]
    exact this
  have k3 : ((w.alloc o1).alloc o2).cell? ⟨gm, 0, none⟩ = some (.slice A l.length c) := cell_alloc (cell_alloc h3 _) _
  have kr := hr.below hb
  subst e1 e2
  have hse := search_any #[.pointer (some ⟨w.heap.size, 0, none⟩), .pointer (some ⟨w.heap.size + 1, 0, none⟩)] l.length (fun i => !leS (l.getD i ⟨#[]⟩) key) ((w.alloc (Obj.cells #[.pointer (some ⟨gm, 0, none⟩)] 26)).alloc (Obj.cells #[.string key] 9)) (by omega)
    (fun m i hi => of1_any i w.heap.size (w.heap.size + 1) gm c l A key _ hi hs (by exact k1) (by exact k2) (by exact k3) (by exact kr))
    (fun a b hab hbn hp => by
      have ha : l[a]? = some (l.getD a ⟨#[]⟩) := by rw [List.getD_eq_getElem?_getD, List.getElem?_eq_getElem (by omega)]; rfl
      have hb : l[b]? = some (l.getD b ⟨#[]⟩) := by rw [List.getD_eq_getElem?_getD, List.getElem?_eq_getElem hbn]; rfl
      cases k : leS (l.getD b ⟨#[]⟩) key with
      | false => rfl
      | true =>
        have hp' : (!leS (l.getD a ⟨#[]⟩) key) = true := hp
        rw [rise_down hR key a b _ _ hab ha hb k] at hp'
        cases hp')
  have hlt := World.block_lt_of_cell? _ _ h3
  have HS := Lib.hid hse
  have HB := Lib.hid hb
  have HR := Lib.hid hR
  clear hse hb hr kr k1 k2 k3 hR
  go_enter Tryd.func44, Tryd.ntmps44
  go_wp2_with fail
  refine HS.out.mono ?_
  rintro e w' ⟨⟨k, rfl, hk, h1, h2⟩, q, rfl⟩
  have HC := Lib.hid (countP_boundary (fun s => leS s key) l k hk (fun i x hi hx => by
    have := h1 i hi
    simpa [List.getD_eq_getElem?_getD, hx] using this) (fun i x hi hx => by
    have := h2 i hi (List.getElem?_eq_some_iff.1 hx).1
    simpa [List.getD_eq_getElem?_getD, hx] using this))
  clear h1 h2
  go_wp2_with fail
  go_ret
  refine ⟨?_, HB.out.trans ⟨rfl, rfl, rfl, Nat.le_refl _, fun _ _ => rfl⟩⟩
  have := HC.out
  unfold shardOf
  rw [this]
  rfl
end Go.Proofs.YtheecdjpbfkpdaaDoor
