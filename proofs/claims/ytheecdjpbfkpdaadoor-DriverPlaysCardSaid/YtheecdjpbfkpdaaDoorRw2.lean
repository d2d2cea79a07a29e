/-
  Walks of the document's functions: a number's text.
-/
import Derived.Test.YtheecdjpbfkpdaaDoorRw1
import Derived.Laws.IdiomStrings
import Derived.Lib.ItoaLen
namespace Go.Proofs.YtheecdjpbfkpdaaDoor
open Go.RowKit
set_option maxRecDepth 100000
set_option linter.unusedSimpArgs false
set_option linter.unusedVariables false

theorem front_list (x : UInt8) (out : ByteArray) : (({ data := #[x] } : ByteArray) ++ out).data.toList = x :: out.data.toList := by
  rw [ByteArray.data_append]; simp
theorem bytes_of_list {a : ByteArray} {l : List UInt8} (h : a.data.toList = l) : a = ⟨l.toArray⟩ := by
  cases a with
  | mk d => rw [← h]
set_option maxHeartbeats 1000000 in
theorem refText_pos (N : Nat) (hN : N ≤ 4611686018427387904) (w : World) :
    Calls Tryd.prog 49 #[.int .i64 N] w fun e w' => e = .returned (.string (textS N)) ∧ Below w.heap.size w w' := by
  go_enter Tryd.func49, Tryd.ntmps49
  have h0 : ¬ (N : Int) < 0 := by omega
  go_wp2
  go_loopw [0, 3] (fun n o wr => ∃ (k : Nat) (out : ByteArray), k ≤ N ∧ n = .int .i64 k ∧ o = .string out ∧ Hid (Lib.decDigits N = Lib.decDigits k ++ out.data.toList) ∧ Hid (Below w.heap.size w wr)) (fun n _ _ => (intOf n).toNat)
  case atStart => exact ⟨N, ⟨#[]⟩, Nat.le_refl _, rfl, rfl, Lib.hid (by simp), Below.refl _ _⟩
  case round =>
    obtain ⟨k, out, hk, rfl, rfl, H, HB⟩ := hrel
    have hcv : (convert 87 9 (.slice (some ⟨wr.heap.size, 0, none⟩) 1 1)).run Tryd.prog (wr.alloc (.cells #[.int .u8 (48 + (k : Int) % 10)] 5)) = .ok (.string ⟨#[UInt8.ofNat (48 + k % 10)]⟩) (wr.alloc (.cells #[.int .u8 (48 + (k : Int) % 10)] 5)) := by
      refine run_convert_bytes_back _ _ _ _ ⟨wr.heap.size, 0, none⟩ 1 [UInt8.ofNat (48 + k % 10)] Tryd.underlying87 Tryd.underlying5 Tryd.underlying9 (fun j hj => ?_)
      obtain rfl : j = 0 := by simpa using hj
      have e : (UInt8.ofNat (48 + k % 10)).toNat = 48 + k % 10 := by rw [UInt8.toNat_ofNat']; omega
      refine ((Blk.new wr 5 #[.int .u8 (48 + (k : Int) % 10)]).at_ 0 _ rfl).trans ?_
      show some (Value.int .u8 (48 + (k : Int) % 10)) = some (.int .u8 ((UInt8.ofNat (48 + k % 10)).toNat : Int))
      rw [e]
      congr 2
    have hos : out.size ≤ 64 := by
      have h1 := congrArg List.length H.out
      have h2 := Lib.itoa_length_le (N : Int) (by omega) (by omega)
      rw [Lib.itoa_nonneg, h1, List.length_append] at h2
      have : out.size = out.data.toList.length := by rw [Array.length_toList]; rfl
      omega
    have hx : UInt8.ofNat (48 + k % 10) = 48 + UInt8.ofNat (k % 10) := by rw [UInt8.ofNat_add]; rfl
    have HX := Lib.hid hx
    clear hx
    go_wp2
    all_goals first
      | (have h10 : k < 10 := by simp only [beq_iff_eq] at *; omega
         have hd : Lib.decDigits N = (48 + UInt8.ofNat (k % 10)) :: out.data.toList := by
           rw [H.out, Lib.decDigits_one h10, ← HX.out, Nat.mod_eq_of_lt h10]; rfl
         have HD := Lib.hid hd
         clear hd h10
         have he : textS N = ({ data := #[48 + UInt8.ofNat (k % 10)] } : ByteArray) ++ out := by
           rw [bytes_of_list (front_list _ out)]
           unfold textS
           rw [Lib.itoa_nonneg, HD.out]
         have HE := Lib.hid he
         clear he
         go_ret
         rw [HE.out]
         exact ⟨rfl, HB.out.alloc HB.out.size _⟩)
      | (have h10 : ¬ k < 10 := by simp only [beq_eq_false_iff_ne, ne_eq] at *; omega
         have hd : Lib.decDigits N = Lib.decDigits (k / 10) ++ (({ data := #[48 + UInt8.ofNat (k % 10)] } : ByteArray) ++ out).data.toList := by
           rw [H.out, Lib.decDigits, dif_neg h10, front_list, List.append_assoc, ← HX.out]; rfl
         have HD := Lib.hid hd
         clear hd
         refine ⟨⟨k / 10, _, by omega, by go_num, rfl, HD.out, HB.out.alloc HB.out.size _⟩, ?_⟩
         simp [intOf]
         omega)

set_option maxHeartbeats 1000000 in
theorem refText_any (n : Int) (h0 : -4611686018427387904 ≤ n) (h1 : n ≤ 4611686018427387904) (w : World) :
    Calls Tryd.prog 49 #[.int .i64 n] w fun e w' => e = .returned (.string (textS n)) ∧ Below w.heap.size w w' := by
  by_cases hn : n < 0
  · have hc := refText_pos n.natAbs (by omega)
    have hm : ((n.natAbs : Nat) : Int) = -n := by omega
    rw [hm] at hc
    have HC := Lib.hid hc
    have hl := Lib.itoa_length_le (-n) (by omega) (by omega)
    have hsz : (textS (-n)).size ≤ 21 := by
      have : (textS (-n)).size = (textS (-n)).data.toList.length := by rw [Array.length_toList]; rfl
      rw [this, textS_list]; exact hl
    have he : textS n = ({ data := #[45] } : ByteArray) ++ textS (-n) := by
      rw [bytes_of_list (front_list _ (textS (-n))), textS_list]
      unfold textS
      rw [show Lib.itoa n = 45 :: Lib.decDigits n.natAbs from by unfold Lib.itoa; rw [if_pos hn], ← hm, Lib.itoa_nonneg]
    have HE := Lib.hid he
    clear hc hm hl he
    go_enter Tryd.func49, Tryd.ntmps49
    go_wp2_with fail
    refine (HC.out _).mono ?_
    rintro e w1 ⟨rfl, hb⟩
    have HB := Lib.hid hb
    clear hb
    generalize textS (-n) = tx at *
    go_wp2_with fail
    go_ret
    rw [HE.out]
    exact ⟨rfl, HB.out⟩
  · obtain ⟨N, rfl⟩ := Int.eq_ofNat_of_zero_le (by omega : 0 ≤ n)
    exact refText_pos N (by omega) w
end Go.Proofs.YtheecdjpbfkpdaaDoor
