/-
  Walks: the driver's accessed and homed (printed by gen_Dw8.py).
-/
import Derived.Test.YtheecdjpbfkpdaaDoorDw7
namespace Go.Proofs.YtheecdjpbfkpdaaDoor
open Go.RowKit
set_option maxRecDepth 100000
set_option linter.unusedSimpArgs false
set_option linter.unusedVariables false

def DS.accessed (s : DS) (r : RepS) : DS :=
  if r.code = 9 ∨ r.code = 8 then { s with phase := 6 }
  else if s.phase = 1 ∧ r.code = 10 then { s with phase := 2 }
  else if r.code ≠ 0 then s
  else if s.phase = 1 then { s with phase := 3 }
  else if s.phase = 3 then s.got r
  else s.begins (s.at_ + 1)
def DS.homed (s : DS) (r : RepS) : DS :=
  if s.phase = 0 ∧ r.code = 9 then s.ends 3
  else if s.phase = 0 ∧ r.code = 0 ∧ r.state = 1 then s.begins 0
  else if s.phase = 2 ∧ r.code = 0 ∧ r.state = 3 then s.ends 3
  else if s.phase = 2 then { s with phase := 1 }
  else if (s.phase = 5 ∨ s.phase = 6) ∧ r.code = 0 ∧ (r.state = 2 ∨ r.state = 3) then s.ends r.state
  else s
theorem DPost.refl_ {w : World} {B g : Nat} {L : DL} {s : DS} (hD : Drv w B g L s) {w' : World} (hb : Below w.heap.size w w') : DPost w B g L s w' :=
  DPost.same (hD.below hb) (.of_below hb) (.inr rfl) (.inr rfl)
/-- What a store into the phase leaves. -/
theorem DPost.phase {w : World} {B g : Nat} {L : DL} {s : DS} (hD : Drv w B g L s) (o : Obj) (x : Int) (hx : x ≠ 7) : DPost w B g L { s with phase := x } ((w.setCell ⟨g, 6, none⟩ (.int .i64 x)).alloc o) :=
  DPost.same ((hD.set6 x (fun e => absurd e hx)).alloc o) (((Upd.refl _ _).at_g).alloc o) (.inr rfl) (.inr rfl)

section
variable {w : World} {B g : Nat} {L : DL} {s : DS}
set_option maxHeartbeats 1000000 in
theorem acc_gone (st : Int) (v : ByteArray) (h : Bool) (hD : Drv w B g L s)  :
    Calls Tryd.prog 31 #[.pointer (some ⟨g, 0, none⟩), .agg #[.int .i64 9, .int .i64 st, .string v, .bool h]] w fun e w' => e = .returned (.tuple #[]) ∧ DPost w B g L { s with phase := 6 } w' := by
  have c6 := hD.c6
  have c7 := hD.c7
  have f6 := hD.fz 6
  have hlt := hD.lt
  have HD := Lib.hid hD
  clear hD
  go_enter Tryd.func31, Tryd.ntmps31
  go_wp2_with fail
  first | go_end0 | ((try simp only [Exit.inBlock, Exit.then]); refine bodyPost_ret (results_none rfl _ _ _) rfl ?_)
  exact ⟨rfl, DPost.phase HD.out _ 6 (by decide)⟩

set_option maxHeartbeats 1000000 in
theorem acc_state (st : Int) (v : ByteArray) (h : Bool) (hD : Drv w B g L s)  :
    Calls Tryd.prog 31 #[.pointer (some ⟨g, 0, none⟩), .agg #[.int .i64 8, .int .i64 st, .string v, .bool h]] w fun e w' => e = .returned (.tuple #[]) ∧ DPost w B g L { s with phase := 6 } w' := by
  have c6 := hD.c6
  have c7 := hD.c7
  have f6 := hD.fz 6
  have hlt := hD.lt
  have HD := Lib.hid hD
  clear hD
  go_enter Tryd.func31, Tryd.ntmps31
  go_wp2_with fail
  first | go_end0 | ((try simp only [Exit.inBlock, Exit.then]); refine bodyPost_ret (results_none rfl _ _ _) rfl ?_)
  exact ⟨rfl, DPost.phase HD.out _ 6 (by decide)⟩

set_option maxHeartbeats 1000000 in
theorem acc_wait (st : Int) (v : ByteArray) (h : Bool) (hD : Drv w B g L s) (hp : s.phase = 1) :
    Calls Tryd.prog 31 #[.pointer (some ⟨g, 0, none⟩), .agg #[.int .i64 10, .int .i64 st, .string v, .bool h]] w fun e w' => e = .returned (.tuple #[]) ∧ DPost w B g L { s with phase := 2 } w' := by
  have c6 := hD.c6
  have c7 := hD.c7
  have f6 := hD.fz 6
  have hlt := hD.lt
  have HD := Lib.hid hD
  rw [hp] at c6
  clear hD
  go_enter Tryd.func31, Tryd.ntmps31
  go_wp2_with fail
  first | go_end0 | ((try simp only [Exit.inBlock, Exit.then]); refine bodyPost_ret (results_none rfl _ _ _) rfl ?_)
  exact ⟨rfl, DPost.phase HD.out _ 2 (by decide)⟩

set_option maxHeartbeats 1000000 in
theorem acc_other1 (code st : Int) (v : ByteArray) (h : Bool) (hD : Drv w B g L s) (h9 : code ≠ 9) (h8 : code ≠ 8) (h0 : code ≠ 0) (hp : s.phase = 1) (h10 : code ≠ 10) :
    Calls Tryd.prog 31 #[.pointer (some ⟨g, 0, none⟩), .agg #[.int .i64 code, .int .i64 st, .string v, .bool h]] w fun e w' => e = .returned (.tuple #[]) ∧ DPost w B g L s w' := by
  have c6 := hD.c6
  have c7 := hD.c7
  have f6 := hD.fz 6
  have hlt := hD.lt
  have HD := Lib.hid hD
  rw [hp] at c6
  have b10 : (code == 10) = false := by simpa using h10
  have b9 : (code == 9) = false := by simpa using h9
  have b8 : (code == 8) = false := by simpa using h8
  have b0 : (code == 0) = false := by simpa using h0
  have b0n : (code != 0) = true := by simpa using h0
  clear hD
  go_enter Tryd.func31, Tryd.ntmps31
  go_wp2_with fail
  first | go_end0 | ((try simp only [Exit.inBlock, Exit.then]); refine bodyPost_ret (results_none rfl _ _ _) rfl ?_)
  exact ⟨rfl, DPost.refl_ HD.out ((Below.refl w.heap.size w).alloc (Nat.le_refl _) _)⟩

set_option maxHeartbeats 1000000 in
theorem acc_other3 (code st : Int) (v : ByteArray) (h : Bool) (hD : Drv w B g L s) (h9 : code ≠ 9) (h8 : code ≠ 8) (h0 : code ≠ 0) (hp : s.phase = 3) :
    Calls Tryd.prog 31 #[.pointer (some ⟨g, 0, none⟩), .agg #[.int .i64 code, .int .i64 st, .string v, .bool h]] w fun e w' => e = .returned (.tuple #[]) ∧ DPost w B g L s w' := by
  have c6 := hD.c6
  have c7 := hD.c7
  have f6 := hD.fz 6
  have hlt := hD.lt
  have HD := Lib.hid hD
  rw [hp] at c6
  have b9 : (code == 9) = false := by simpa using h9
  have b8 : (code == 8) = false := by simpa using h8
  have b0 : (code == 0) = false := by simpa using h0
  have b0n : (code != 0) = true := by simpa using h0
  clear hD
  go_enter Tryd.func31, Tryd.ntmps31
  go_wp2_with fail
  first | go_end0 | ((try simp only [Exit.inBlock, Exit.then]); refine bodyPost_ret (results_none rfl _ _ _) rfl ?_)
  exact ⟨rfl, DPost.refl_ HD.out ((Below.refl w.heap.size w).alloc (Nat.le_refl _) _)⟩

set_option maxHeartbeats 1000000 in
theorem acc_other4 (code st : Int) (v : ByteArray) (h : Bool) (hD : Drv w B g L s) (h9 : code ≠ 9) (h8 : code ≠ 8) (h0 : code ≠ 0) (hp : s.phase = 4) :
    Calls Tryd.prog 31 #[.pointer (some ⟨g, 0, none⟩), .agg #[.int .i64 code, .int .i64 st, .string v, .bool h]] w fun e w' => e = .returned (.tuple #[]) ∧ DPost w B g L s w' := by
  have c6 := hD.c6
  have c7 := hD.c7
  have f6 := hD.fz 6
  have hlt := hD.lt
  have HD := Lib.hid hD
  rw [hp] at c6
  have b9 : (code == 9) = false := by simpa using h9
  have b8 : (code == 8) = false := by simpa using h8
  have b0 : (code == 0) = false := by simpa using h0
  have b0n : (code != 0) = true := by simpa using h0
  clear hD
  go_enter Tryd.func31, Tryd.ntmps31
  go_wp2_with fail
  first | go_end0 | ((try simp only [Exit.inBlock, Exit.then]); refine bodyPost_ret (results_none rfl _ _ _) rfl ?_)
  exact ⟨rfl, DPost.refl_ HD.out ((Below.refl w.heap.size w).alloc (Nat.le_refl _) _)⟩

set_option maxHeartbeats 1000000 in
theorem acc_locked (st : Int) (v : ByteArray) (h : Bool) (hD : Drv w B g L s) (hp : s.phase = 1) :
    Calls Tryd.prog 31 #[.pointer (some ⟨g, 0, none⟩), .agg #[.int .i64 0, .int .i64 st, .string v, .bool h]] w fun e w' => e = .returned (.tuple #[]) ∧ DPost w B g L { s with phase := 3 } w' := by
  have c6 := hD.c6
  have c7 := hD.c7
  have f6 := hD.fz 6
  have hlt := hD.lt
  have HD := Lib.hid hD
  rw [hp] at c6
  clear hD
  go_enter Tryd.func31, Tryd.ntmps31
  go_wp2_with fail
  first | go_end0 | ((try simp only [Exit.inBlock, Exit.then]); refine bodyPost_ret (results_none rfl _ _ _) rfl ?_)
  exact ⟨rfl, DPost.phase HD.out _ 3 (by decide)⟩

set_option maxHeartbeats 1000000 in
theorem acc_got (st : Int) (v : ByteArray) (h : Bool) (hD : Drv w B g L s) (hR : Rise s.splits) (h7 : s.splits.length ≤ 7) (hs : s.touched.Pairwise (· < ·)) (hl : s.touched.length ≤ 4095) (hp : s.phase = 3) (h0 : 0 ≤ s.at_) (h1 : s.at_ < s.plan.length) (h16 : s.plan.length ≤ 16) (hr16 : s.results.length ≤ 4096) (hrv : v.size ≤ 281474976710656) (hG : Glob w) (hB : 3 ≤ B) :
    Calls Tryd.prog 31 #[.pointer (some ⟨g, 0, none⟩), .agg #[.int .i64 0, .int .i64 st, .string v, .bool h]] w fun e w' => e = .returned (.tuple #[]) ∧ DPost w B g L (s.got ⟨0, st, v, h⟩) w' := by
  have c6 := hD.c6
  have c7 := hD.c7
  have f6 := hD.fz 6
  have hlt := hD.lt
  have HD := Lib.hid hD
  rw [hp] at c6
  have hGo := Lib.hid (got_any ⟨0, st, v, h⟩ (hD.alloc (.cells #[.int .i64 0, .int .i64 st, .string v, .bool h] 36)) hR h7 (by omega) h0 h1 h16 hs hl hr16 hrv (hG.keep (fun k hk => Below.heap_alloc w _ k (by have := hD.gB; have := hD.lt; omega))) hB)
  clear hD hR hs hG
  go_enter Tryd.func31, Tryd.ntmps31
  go_wp2_with fail
  refine hGo.out.mono ?_
  rintro e w1 ⟨rfl, hP⟩
  have HP := Lib.hid hP
  clear hP
  go_wp2_with fail
  first | go_end0 | ((try simp only [Exit.inBlock, Exit.then]); refine bodyPost_ret (results_none rfl _ _ _) rfl ?_)
  exact ⟨rfl, DPost.from_ (L1 := L) ((Upd.refl _ _).alloc _) (fun _ hk => .inl hk) HP.out⟩

set_option maxHeartbeats 1000000 in
theorem acc_begins (st : Int) (v : ByteArray) (h : Bool) (hD : Drv w B g L s) (hR : Rise s.splits) (h7 : s.splits.length ≤ 7) (hs : s.touched.Pairwise (· < ·)) (hl : s.touched.length ≤ 4095) (hp : s.phase = 4) (h0 : 0 ≤ s.at_) (h16 : s.at_ ≤ 16) :
    Calls Tryd.prog 31 #[.pointer (some ⟨g, 0, none⟩), .agg #[.int .i64 0, .int .i64 st, .string v, .bool h]] w fun e w' => e = .returned (.tuple #[]) ∧ DPost w B g L (s.begins (s.at_ + 1)) w' := by
  have c6 := hD.c6
  have c7 := hD.c7
  have f6 := hD.fz 6
  have hlt := hD.lt
  have HD := Lib.hid hD
  rw [hp] at c6
  have hGo := Lib.hid (begins_any (s.at_ + 1) (hD.alloc (.cells #[.int .i64 0, .int .i64 st, .string v, .bool h] 36)) hR h7 (by omega) (by omega) hs hl)
  clear hD hR hs
  go_enter Tryd.func31, Tryd.ntmps31
  go_wp2_with fail
  refine hGo.out.mono ?_
  rintro e w1 ⟨rfl, hP⟩
  have HP := Lib.hid hP
  clear hP
  go_wp2_with fail
  first | go_end0 | ((try simp only [Exit.inBlock, Exit.then]); refine bodyPost_ret (results_none rfl _ _ _) rfl ?_)
  exact ⟨rfl, DPost.from_ (L1 := L) ((Upd.refl _ _).alloc _) (fun _ hk => .inl hk) HP.out⟩

set_option maxHeartbeats 1000000 in
theorem hom_gone (st : Int) (v : ByteArray) (h : Bool) (hD : Drv w B g L s) (h0 : 0 ≤ s.attempt) (h1 : s.attempt < s.tries) (h2 : s.tries ≤ 1048576) (hp : s.phase = 0) :
    Calls Tryd.prog 33 #[.pointer (some ⟨g, 0, none⟩), .agg #[.int .i64 9, .int .i64 st, .string v, .bool h]] w fun e w' => e = .returned (.tuple #[]) ∧ DPost w B g L (s.ends 3) w' := by
  have c6 := hD.c6
  have c7 := hD.c7
  have f6 := hD.fz 6
  have hlt := hD.lt
  have HD := Lib.hid hD
  rw [hp] at c6
  have hGo := Lib.hid (ends_any 3 (hD.alloc (.cells #[.int .i64 9, .int .i64 st, .string v, .bool h] 36)) (by omega) h0 h1 h2)
  clear hD
  go_enter Tryd.func33, Tryd.ntmps33
  go_wp2_with fail
  refine hGo.out.mono ?_
  rintro e w1 ⟨rfl, hP⟩
  have HP := Lib.hid hP
  clear hP
  go_wp2_with fail
  first | go_end0 | ((try simp only [Exit.inBlock, Exit.then]); refine bodyPost_ret (results_none rfl _ _ _) rfl ?_)
  exact ⟨rfl, DPost.from_ (L1 := L) ((Upd.refl _ _).alloc _) (fun _ hk => .inl hk) HP.out⟩

set_option maxHeartbeats 1000000 in
theorem hom_begins  (v : ByteArray) (h : Bool) (hD : Drv w B g L s) (hR : Rise s.splits) (h7 : s.splits.length ≤ 7) (hs : s.touched.Pairwise (· < ·)) (hl : s.touched.length ≤ 4095) (hp : s.phase = 0) :
    Calls Tryd.prog 33 #[.pointer (some ⟨g, 0, none⟩), .agg #[.int .i64 0, .int .i64 1, .string v, .bool h]] w fun e w' => e = .returned (.tuple #[]) ∧ DPost w B g L (s.begins 0) w' := by
  have c6 := hD.c6
  have c7 := hD.c7
  have f6 := hD.fz 6
  have hlt := hD.lt
  have HD := Lib.hid hD
  rw [hp] at c6
  have hGo := Lib.hid (begins_any 0 (hD.alloc (.cells #[.int .i64 0, .int .i64 1, .string v, .bool h] 36)) hR h7 (by omega) (by omega) hs hl)
  clear hD
  go_enter Tryd.func33, Tryd.ntmps33
  go_wp2_with fail
  refine hGo.out.mono ?_
  rintro e w1 ⟨rfl, hP⟩
  have HP := Lib.hid hP
  clear hP
  go_wp2_with fail
  first | go_end0 | ((try simp only [Exit.inBlock, Exit.then]); refine bodyPost_ret (results_none rfl _ _ _) rfl ?_)
  exact ⟨rfl, DPost.from_ (L1 := L) ((Upd.refl _ _).alloc _) (fun _ hk => .inl hk) HP.out⟩

set_option maxHeartbeats 1000000 in
theorem hom_beaten  (v : ByteArray) (h : Bool) (hD : Drv w B g L s) (h0 : 0 ≤ s.attempt) (h1 : s.attempt < s.tries) (h2 : s.tries ≤ 1048576) (hp : s.phase = 2) :
    Calls Tryd.prog 33 #[.pointer (some ⟨g, 0, none⟩), .agg #[.int .i64 0, .int .i64 3, .string v, .bool h]] w fun e w' => e = .returned (.tuple #[]) ∧ DPost w B g L (s.ends 3) w' := by
  have c6 := hD.c6
  have c7 := hD.c7
  have f6 := hD.fz 6
  have hlt := hD.lt
  have HD := Lib.hid hD
  rw [hp] at c6
  have hGo := Lib.hid (ends_any 3 (hD.alloc (.cells #[.int .i64 0, .int .i64 3, .string v, .bool h] 36)) (by omega) h0 h1 h2)
  clear hD
  go_enter Tryd.func33, Tryd.ntmps33
  go_wp2_with fail
  refine hGo.out.mono ?_
  rintro e w1 ⟨rfl, hP⟩
  have HP := Lib.hid hP
  clear hP
  go_wp2_with fail
  first | go_end0 | ((try simp only [Exit.inBlock, Exit.then]); refine bodyPost_ret (results_none rfl _ _ _) rfl ?_)
  exact ⟨rfl, DPost.from_ (L1 := L) ((Upd.refl _ _).alloc _) (fun _ hk => .inl hk) HP.out⟩

set_option maxHeartbeats 1000000 in
theorem hom_end52  (v : ByteArray) (h : Bool) (hD : Drv w B g L s) (h0 : 0 ≤ s.attempt) (h1 : s.attempt < s.tries) (h2 : s.tries ≤ 1048576) (hp : s.phase = 5) :
    Calls Tryd.prog 33 #[.pointer (some ⟨g, 0, none⟩), .agg #[.int .i64 0, .int .i64 2, .string v, .bool h]] w fun e w' => e = .returned (.tuple #[]) ∧ DPost w B g L (s.ends 2) w' := by
  have c6 := hD.c6
  have c7 := hD.c7
  have f6 := hD.fz 6
  have hlt := hD.lt
  have HD := Lib.hid hD
  rw [hp] at c6
  have hGo := Lib.hid (ends_any 2 (hD.alloc (.cells #[.int .i64 0, .int .i64 2, .string v, .bool h] 36)) (by omega) h0 h1 h2)
  clear hD
  go_enter Tryd.func33, Tryd.ntmps33
  go_wp2_with fail
  refine hGo.out.mono ?_
  rintro e w1 ⟨rfl, hP⟩
  have HP := Lib.hid hP
  clear hP
  go_wp2_with fail
  first | go_end0 | ((try simp only [Exit.inBlock, Exit.then]); refine bodyPost_ret (results_none rfl _ _ _) rfl ?_)
  exact ⟨rfl, DPost.from_ (L1 := L) ((Upd.refl _ _).alloc _) (fun _ hk => .inl hk) HP.out⟩

set_option maxHeartbeats 1000000 in
theorem hom_end53  (v : ByteArray) (h : Bool) (hD : Drv w B g L s) (h0 : 0 ≤ s.attempt) (h1 : s.attempt < s.tries) (h2 : s.tries ≤ 1048576) (hp : s.phase = 5) :
    Calls Tryd.prog 33 #[.pointer (some ⟨g, 0, none⟩), .agg #[.int .i64 0, .int .i64 3, .string v, .bool h]] w fun e w' => e = .returned (.tuple #[]) ∧ DPost w B g L (s.ends 3) w' := by
  have c6 := hD.c6
  have c7 := hD.c7
  have f6 := hD.fz 6
  have hlt := hD.lt
  have HD := Lib.hid hD
  rw [hp] at c6
  have hGo := Lib.hid (ends_any 3 (hD.alloc (.cells #[.int .i64 0, .int .i64 3, .string v, .bool h] 36)) (by omega) h0 h1 h2)
  clear hD
  go_enter Tryd.func33, Tryd.ntmps33
  go_wp2_with fail
  refine hGo.out.mono ?_
  rintro e w1 ⟨rfl, hP⟩
  have HP := Lib.hid hP
  clear hP
  go_wp2_with fail
  first | go_end0 | ((try simp only [Exit.inBlock, Exit.then]); refine bodyPost_ret (results_none rfl _ _ _) rfl ?_)
  exact ⟨rfl, DPost.from_ (L1 := L) ((Upd.refl _ _).alloc _) (fun _ hk => .inl hk) HP.out⟩

set_option maxHeartbeats 1000000 in
theorem hom_end62  (v : ByteArray) (h : Bool) (hD : Drv w B g L s) (h0 : 0 ≤ s.attempt) (h1 : s.attempt < s.tries) (h2 : s.tries ≤ 1048576) (hp : s.phase = 6) :
    Calls Tryd.prog 33 #[.pointer (some ⟨g, 0, none⟩), .agg #[.int .i64 0, .int .i64 2, .string v, .bool h]] w fun e w' => e = .returned (.tuple #[]) ∧ DPost w B g L (s.ends 2) w' := by
  have c6 := hD.c6
  have c7 := hD.c7
  have f6 := hD.fz 6
  have hlt := hD.lt
  have HD := Lib.hid hD
  rw [hp] at c6
  have hGo := Lib.hid (ends_any 2 (hD.alloc (.cells #[.int .i64 0, .int .i64 2, .string v, .bool h] 36)) (by omega) h0 h1 h2)
  clear hD
  go_enter Tryd.func33, Tryd.ntmps33
  go_wp2_with fail
  refine hGo.out.mono ?_
  rintro e w1 ⟨rfl, hP⟩
  have HP := Lib.hid hP
  clear hP
  go_wp2_with fail
  first | go_end0 | ((try simp only [Exit.inBlock, Exit.then]); refine bodyPost_ret (results_none rfl _ _ _) rfl ?_)
  exact ⟨rfl, DPost.from_ (L1 := L) ((Upd.refl _ _).alloc _) (fun _ hk => .inl hk) HP.out⟩

set_option maxHeartbeats 1000000 in
theorem hom_end63  (v : ByteArray) (h : Bool) (hD : Drv w B g L s) (h0 : 0 ≤ s.attempt) (h1 : s.attempt < s.tries) (h2 : s.tries ≤ 1048576) (hp : s.phase = 6) :
    Calls Tryd.prog 33 #[.pointer (some ⟨g, 0, none⟩), .agg #[.int .i64 0, .int .i64 3, .string v, .bool h]] w fun e w' => e = .returned (.tuple #[]) ∧ DPost w B g L (s.ends 3) w' := by
  have c6 := hD.c6
  have c7 := hD.c7
  have f6 := hD.fz 6
  have hlt := hD.lt
  have HD := Lib.hid hD
  rw [hp] at c6
  have hGo := Lib.hid (ends_any 3 (hD.alloc (.cells #[.int .i64 0, .int .i64 3, .string v, .bool h] 36)) (by omega) h0 h1 h2)
  clear hD
  go_enter Tryd.func33, Tryd.ntmps33
  go_wp2_with fail
  refine hGo.out.mono ?_
  rintro e w1 ⟨rfl, hP⟩
  have HP := Lib.hid hP
  clear hP
  go_wp2_with fail
  first | go_end0 | ((try simp only [Exit.inBlock, Exit.then]); refine bodyPost_ret (results_none rfl _ _ _) rfl ?_)
  exact ⟨rfl, DPost.from_ (L1 := L) ((Upd.refl _ _).alloc _) (fun _ hk => .inl hk) HP.out⟩

set_option maxHeartbeats 1000000 in
theorem hom_beat_e (code st : Int) (v : ByteArray) (h : Bool) (hD : Drv w B g L s) (hp : s.phase = 2) (h0 : code ≠ 0) :
    Calls Tryd.prog 33 #[.pointer (some ⟨g, 0, none⟩), .agg #[.int .i64 code, .int .i64 st, .string v, .bool h]] w fun e w' => e = .returned (.tuple #[]) ∧ DPost w B g L { s with phase := 1 } w' := by
  have c6 := hD.c6
  have c7 := hD.c7
  have f6 := hD.fz 6
  have hlt := hD.lt
  have HD := Lib.hid hD
  rw [hp] at c6
  have b0 : (code == 0) = false := by simpa using h0
  clear hD
  go_enter Tryd.func33, Tryd.ntmps33
  go_wp2_with fail
  first | go_end0 | ((try simp only [Exit.inBlock, Exit.then]); refine bodyPost_ret (results_none rfl _ _ _) rfl ?_)
  exact ⟨rfl, DPost.phase HD.out _ 1 (by decide)⟩

set_option maxHeartbeats 1000000 in
theorem hom_beat_s2  (v : ByteArray) (h : Bool) (hD : Drv w B g L s) (hp : s.phase = 2) :
    Calls Tryd.prog 33 #[.pointer (some ⟨g, 0, none⟩), .agg #[.int .i64 0, .int .i64 2, .string v, .bool h]] w fun e w' => e = .returned (.tuple #[]) ∧ DPost w B g L { s with phase := 1 } w' := by
  have c6 := hD.c6
  have c7 := hD.c7
  have f6 := hD.fz 6
  have hlt := hD.lt
  have HD := Lib.hid hD
  rw [hp] at c6
  clear hD
  go_enter Tryd.func33, Tryd.ntmps33
  go_wp2_with fail
  first | go_end0 | ((try simp only [Exit.inBlock, Exit.then]); refine bodyPost_ret (results_none rfl _ _ _) rfl ?_)
  exact ⟨rfl, DPost.phase HD.out _ 1 (by decide)⟩

set_option maxHeartbeats 1000000 in
theorem hom_beat_s (st : Int) (v : ByteArray) (h : Bool) (hD : Drv w B g L s) (hp : s.phase = 2) (h2 : st ≠ 2) (h3 : st ≠ 3) :
    Calls Tryd.prog 33 #[.pointer (some ⟨g, 0, none⟩), .agg #[.int .i64 0, .int .i64 st, .string v, .bool h]] w fun e w' => e = .returned (.tuple #[]) ∧ DPost w B g L { s with phase := 1 } w' := by
  have c6 := hD.c6
  have c7 := hD.c7
  have f6 := hD.fz 6
  have hlt := hD.lt
  have HD := Lib.hid hD
  rw [hp] at c6
  have b2 : (st == 2) = false := by simpa using h2
  have b3 : (st == 3) = false := by simpa using h3
  clear hD
  go_enter Tryd.func33, Tryd.ntmps33
  go_wp2_with fail
  first | go_end0 | ((try simp only [Exit.inBlock, Exit.then]); refine bodyPost_ret (results_none rfl _ _ _) rfl ?_)
  exact ⟨rfl, DPost.phase HD.out _ 1 (by decide)⟩

set_option maxHeartbeats 1000000 in
theorem hom_open_e (code st : Int) (v : ByteArray) (h : Bool) (hD : Drv w B g L s) (hp : s.phase = 0) (h0 : code ≠ 0) (h9 : code ≠ 9) :
    Calls Tryd.prog 33 #[.pointer (some ⟨g, 0, none⟩), .agg #[.int .i64 code, .int .i64 st, .string v, .bool h]] w fun e w' => e = .returned (.tuple #[]) ∧ DPost w B g L s w' := by
  have c6 := hD.c6
  have c7 := hD.c7
  have f6 := hD.fz 6
  have hlt := hD.lt
  have HD := Lib.hid hD
  rw [hp] at c6
  have b0 : (code == 0) = false := by simpa using h0
  have b9 : (code == 9) = false := by simpa using h9
  clear hD
  go_enter Tryd.func33, Tryd.ntmps33
  go_wp2_with fail
  first | go_end0 | ((try simp only [Exit.inBlock, Exit.then]); refine bodyPost_ret (results_none rfl _ _ _) rfl ?_)
  exact ⟨rfl, DPost.refl_ HD.out ((Below.refl w.heap.size w).alloc (Nat.le_refl _) _)⟩

set_option maxHeartbeats 1000000 in
theorem hom_open_s2  (v : ByteArray) (h : Bool) (hD : Drv w B g L s) (hp : s.phase = 0) :
    Calls Tryd.prog 33 #[.pointer (some ⟨g, 0, none⟩), .agg #[.int .i64 0, .int .i64 2, .string v, .bool h]] w fun e w' => e = .returned (.tuple #[]) ∧ DPost w B g L s w' := by
  have c6 := hD.c6
  have c7 := hD.c7
  have f6 := hD.fz 6
  have hlt := hD.lt
  have HD := Lib.hid hD
  rw [hp] at c6
  clear hD
  go_enter Tryd.func33, Tryd.ntmps33
  go_wp2_with fail
  first | go_end0 | ((try simp only [Exit.inBlock, Exit.then]); refine bodyPost_ret (results_none rfl _ _ _) rfl ?_)
  exact ⟨rfl, DPost.refl_ HD.out ((Below.refl w.heap.size w).alloc (Nat.le_refl _) _)⟩

set_option maxHeartbeats 1000000 in
theorem hom_open_s3  (v : ByteArray) (h : Bool) (hD : Drv w B g L s) (hp : s.phase = 0) :
    Calls Tryd.prog 33 #[.pointer (some ⟨g, 0, none⟩), .agg #[.int .i64 0, .int .i64 3, .string v, .bool h]] w fun e w' => e = .returned (.tuple #[]) ∧ DPost w B g L s w' := by
  have c6 := hD.c6
  have c7 := hD.c7
  have f6 := hD.fz 6
  have hlt := hD.lt
  have HD := Lib.hid hD
  rw [hp] at c6
  clear hD
  go_enter Tryd.func33, Tryd.ntmps33
  go_wp2_with fail
  first | go_end0 | ((try simp only [Exit.inBlock, Exit.then]); refine bodyPost_ret (results_none rfl _ _ _) rfl ?_)
  exact ⟨rfl, DPost.refl_ HD.out ((Below.refl w.heap.size w).alloc (Nat.le_refl _) _)⟩

set_option maxHeartbeats 1000000 in
theorem hom_open_s (st : Int) (v : ByteArray) (h : Bool) (hD : Drv w B g L s) (hp : s.phase = 0) (h1 : st ≠ 1) (h2 : st ≠ 2) (h3 : st ≠ 3) :
    Calls Tryd.prog 33 #[.pointer (some ⟨g, 0, none⟩), .agg #[.int .i64 0, .int .i64 st, .string v, .bool h]] w fun e w' => e = .returned (.tuple #[]) ∧ DPost w B g L s w' := by
  have c6 := hD.c6
  have c7 := hD.c7
  have f6 := hD.fz 6
  have hlt := hD.lt
  have HD := Lib.hid hD
  rw [hp] at c6
  have b1 : (st == 1) = false := by simpa using h1
  have b2 : (st == 2) = false := by simpa using h2
  have b3 : (st == 3) = false := by simpa using h3
  clear hD
  go_enter Tryd.func33, Tryd.ntmps33
  go_wp2_with fail
  first | go_end0 | ((try simp only [Exit.inBlock, Exit.then]); refine bodyPost_ret (results_none rfl _ _ _) rfl ?_)
  exact ⟨rfl, DPost.refl_ HD.out ((Below.refl w.heap.size w).alloc (Nat.le_refl _) _)⟩

set_option maxHeartbeats 1000000 in
theorem hom_end5_e (code st : Int) (v : ByteArray) (h : Bool) (hD : Drv w B g L s) (hp : s.phase = 5) (h0 : code ≠ 0) :
    Calls Tryd.prog 33 #[.pointer (some ⟨g, 0, none⟩), .agg #[.int .i64 code, .int .i64 st, .string v, .bool h]] w fun e w' => e = .returned (.tuple #[]) ∧ DPost w B g L s w' := by
  have c6 := hD.c6
  have c7 := hD.c7
  have f6 := hD.fz 6
  have hlt := hD.lt
  have HD := Lib.hid hD
  rw [hp] at c6
  have b0 : (code == 0) = false := by simpa using h0
  clear hD
  go_enter Tryd.func33, Tryd.ntmps33
  go_wp2_with fail
  first | go_end0 | ((try simp only [Exit.inBlock, Exit.then]); refine bodyPost_ret (results_none rfl _ _ _) rfl ?_)
  exact ⟨rfl, DPost.refl_ HD.out ((Below.refl w.heap.size w).alloc (Nat.le_refl _) _)⟩

set_option maxHeartbeats 1000000 in
theorem hom_end5_s (st : Int) (v : ByteArray) (h : Bool) (hD : Drv w B g L s) (hp : s.phase = 5) (h2 : st ≠ 2) (h3 : st ≠ 3) :
    Calls Tryd.prog 33 #[.pointer (some ⟨g, 0, none⟩), .agg #[.int .i64 0, .int .i64 st, .string v, .bool h]] w fun e w' => e = .returned (.tuple #[]) ∧ DPost w B g L s w' := by
  have c6 := hD.c6
  have c7 := hD.c7
  have f6 := hD.fz 6
  have hlt := hD.lt
  have HD := Lib.hid hD
  rw [hp] at c6
  have b2 : (st == 2) = false := by simpa using h2
  have b3 : (st == 3) = false := by simpa using h3
  clear hD
  go_enter Tryd.func33, Tryd.ntmps33
  go_wp2_with fail
  first | go_end0 | ((try simp only [Exit.inBlock, Exit.then]); refine bodyPost_ret (results_none rfl _ _ _) rfl ?_)
  exact ⟨rfl, DPost.refl_ HD.out ((Below.refl w.heap.size w).alloc (Nat.le_refl _) _)⟩

set_option maxHeartbeats 1000000 in
theorem hom_end6_e (code st : Int) (v : ByteArray) (h : Bool) (hD : Drv w B g L s) (hp : s.phase = 6) (h0 : code ≠ 0) :
    Calls Tryd.prog 33 #[.pointer (some ⟨g, 0, none⟩), .agg #[.int .i64 code, .int .i64 st, .string v, .bool h]] w fun e w' => e = .returned (.tuple #[]) ∧ DPost w B g L s w' := by
  have c6 := hD.c6
  have c7 := hD.c7
  have f6 := hD.fz 6
  have hlt := hD.lt
  have HD := Lib.hid hD
  rw [hp] at c6
  have b0 : (code == 0) = false := by simpa using h0
  clear hD
  go_enter Tryd.func33, Tryd.ntmps33
  go_wp2_with fail
  first | go_end0 | ((try simp only [Exit.inBlock, Exit.then]); refine bodyPost_ret (results_none rfl _ _ _) rfl ?_)
  exact ⟨rfl, DPost.refl_ HD.out ((Below.refl w.heap.size w).alloc (Nat.le_refl _) _)⟩

set_option maxHeartbeats 1000000 in
theorem hom_end6_s (st : Int) (v : ByteArray) (h : Bool) (hD : Drv w B g L s) (hp : s.phase = 6) (h2 : st ≠ 2) (h3 : st ≠ 3) :
    Calls Tryd.prog 33 #[.pointer (some ⟨g, 0, none⟩), .agg #[.int .i64 0, .int .i64 st, .string v, .bool h]] w fun e w' => e = .returned (.tuple #[]) ∧ DPost w B g L s w' := by
  have c6 := hD.c6
  have c7 := hD.c7
  have f6 := hD.fz 6
  have hlt := hD.lt
  have HD := Lib.hid hD
  rw [hp] at c6
  have b2 : (st == 2) = false := by simpa using h2
  have b3 : (st == 3) = false := by simpa using h3
  clear hD
  go_enter Tryd.func33, Tryd.ntmps33
  go_wp2_with fail
  first | go_end0 | ((try simp only [Exit.inBlock, Exit.then]); refine bodyPost_ret (results_none rfl _ _ _) rfl ?_)
  exact ⟨rfl, DPost.refl_ HD.out ((Below.refl w.heap.size w).alloc (Nat.le_refl _) _)⟩

theorem accessed_any (r : RepS) (hD : Drv w B g L s) (hR : Rise s.splits) (h7 : s.splits.length ≤ 7) (hs : s.touched.Pairwise (· < ·)) (hl : s.touched.length ≤ 4095) (hp : s.phase = 1 ∨ s.phase = 3 ∨ s.phase = 4) (h0 : 0 ≤ s.at_) (h1 : s.at_ < s.plan.length) (h16 : s.plan.length ≤ 16)
    (hr16 : s.results.length ≤ 4096) (hrv : r.v.size ≤ 281474976710656) (hG : Glob w) (hB : 3 ≤ B) :
    Calls Tryd.prog 31 #[.pointer (some ⟨g, 0, none⟩), .agg #[.int .i64 r.code, .int .i64 r.state, .string r.v, .bool r.h]] w fun e w' => e = .returned (.tuple #[]) ∧ DPost w B g L (s.accessed r) w' := by
  obtain ⟨code, st, v, h⟩ := r
  unfold DS.accessed
  dsimp only
  by_cases h9 : code = 9
  · subst h9
    rw [if_pos (.inl rfl)]
    exact acc_gone st v h hD
  by_cases h8 : code = 8
  · subst h8
    rw [if_pos (.inr rfl)]
    exact acc_state st v h hD
  rw [if_neg (by omega)]
  rcases hp with hp | hp | hp
  · by_cases h10 : code = 10
    · subst h10
      rw [if_pos ⟨hp, rfl⟩]
      exact acc_wait st v h hD hp
    · rw [if_neg (by omega)]
      by_cases hc : code = 0
      · subst hc
        rw [if_neg (by omega), if_pos hp]
        exact acc_locked st v h hD hp
      · rw [if_pos hc]
        exact acc_other1 code st v h hD h9 h8 hc hp h10
  · rw [if_neg (by omega)]
    by_cases hc : code = 0
    · subst hc
      rw [if_neg (by omega), if_neg (by omega), if_pos hp]
      exact acc_got st v h hD hR h7 hs hl hp h0 h1 h16 hr16 hrv hG hB
    · rw [if_pos hc]
      exact acc_other3 code st v h hD h9 h8 hc hp
  · rw [if_neg (by omega)]
    by_cases hc : code = 0
    · subst hc
      rw [if_neg (by omega), if_neg (by omega), if_neg (by omega)]
      exact acc_begins st v h hD hR h7 hs hl hp h0 (by omega)
    · rw [if_pos hc]
      exact acc_other4 code st v h hD h9 h8 hc hp

theorem homed_any (r : RepS) (hD : Drv w B g L s) (hR : Rise s.splits) (h7 : s.splits.length ≤ 7) (hs : s.touched.Pairwise (· < ·)) (hl : s.touched.length ≤ 4095) (hp : s.phase = 0 ∨ s.phase = 2 ∨ s.phase = 5 ∨ s.phase = 6) (h0 : 0 ≤ s.attempt) (h1 : s.attempt < s.tries) (h2 : s.tries ≤ 1048576) :
    Calls Tryd.prog 33 #[.pointer (some ⟨g, 0, none⟩), .agg #[.int .i64 r.code, .int .i64 r.state, .string r.v, .bool r.h]] w fun e w' => e = .returned (.tuple #[]) ∧ DPost w B g L (s.homed r) w' := by
  obtain ⟨code, st, v, h⟩ := r
  unfold DS.homed
  dsimp only
  rcases hp with hp | hp | hp
  · by_cases h9 : code = 9
    · subst h9
      rw [if_pos ⟨hp, rfl⟩]
      exact hom_gone st v h hD h0 h1 h2 hp
    rw [if_neg (by omega)]
    by_cases hc : code = 0
    · subst hc
      by_cases s1 : st = 1
      · subst s1
        rw [if_pos ⟨hp, rfl, rfl⟩]
        exact hom_begins v h hD hR h7 hs hl hp
      rw [if_neg (by omega), if_neg (by omega), if_neg (by omega), if_neg (by omega)]
      by_cases s2 : st = 2
      · subst s2; exact hom_open_s2 v h hD hp
      by_cases s3 : st = 3
      · subst s3; exact hom_open_s3 v h hD hp
      exact hom_open_s st v h hD hp s1 s2 s3
    · rw [if_neg (by omega), if_neg (by omega), if_neg (by omega), if_neg (by omega)]
      exact hom_open_e code st v h hD hp hc h9
  · rw [if_neg (by omega), if_neg (by omega)]
    by_cases hc : code = 0
    · subst hc
      by_cases s3 : st = 3
      · subst s3
        rw [if_pos ⟨hp, rfl, rfl⟩]
        exact hom_beaten v h hD h0 h1 h2 hp
      rw [if_neg (by omega), if_pos hp]
      by_cases s2 : st = 2
      · subst s2; exact hom_beat_s2 v h hD hp
      exact hom_beat_s st v h hD hp s2 s3
    · rw [if_neg (by omega), if_pos hp]
      exact hom_beat_e code st v h hD hp hc
  · rw [if_neg (by omega), if_neg (by omega), if_neg (by omega), if_neg (by omega)]
    by_cases hc : code = 0
    · subst hc
      by_cases s2 : st = 2
      · subst s2
        rw [if_pos ⟨hp, rfl, .inl rfl⟩]
        rcases hp with hp | hp
        · exact hom_end52 v h hD h0 h1 h2 hp
        · exact hom_end62 v h hD h0 h1 h2 hp
      by_cases s3 : st = 3
      · subst s3
        rw [if_pos ⟨hp, rfl, .inr rfl⟩]
        rcases hp with hp | hp
        · exact hom_end53 v h hD h0 h1 h2 hp
        · exact hom_end63 v h hD h0 h1 h2 hp
      rw [if_neg (by omega)]
      rcases hp with hp | hp
      · exact hom_end5_s st v h hD hp s2 s3
      · exact hom_end6_s st v h hD hp s2 s3
    · rw [if_neg (by omega)]
      rcases hp with hp | hp
      · exact hom_end5_e code st v h hD hp hc
      · exact hom_end6_e code st v h hD hp hc
end
end Go.Proofs.YtheecdjpbfkpdaaDoor
