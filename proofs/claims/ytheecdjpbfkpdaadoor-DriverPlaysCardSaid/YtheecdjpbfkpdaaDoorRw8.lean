/-
  Walks of the document's driver: Tell but for a reading (printed by gen_Rw8.py).
-/
import Derived.Test.YtheecdjpbfkpdaaDoorRw6
namespace Go.Proofs.YtheecdjpbfkpdaaDoor
open Go.RowKit
set_option maxRecDepth 100000
set_option linter.unusedSimpArgs false
set_option linter.unusedVariables false
section
variable {W w : World} {g : Nat} {M : RL} {t : RS} {rc rs : Int} {rv : ByteArray} {rh : Bool}

set_option maxHeartbeats 1000000 in
theorem refTell_1a (hR : Ref W w g M t) (h16 : t.plan.length ≤ 16) (h7 : t.splits.length ≤ 7) (ha0 : 0 ≤ t.attempt) (ha1 : t.attempt ≤ 1048576) (hk : t.asks = 1) :
    Calls Tryd.prog 16 #[.pointer (some ⟨g, 0, none⟩), .agg #[.int .i64 9, .int .i64 rs, .string rv, .bool rh]] w fun e w' => e = .returned (.tuple #[]) ∧ RPost W w g M (t.tell ⟨9, rs, rv, rh⟩) w' := by
  have he : t.tell ⟨9, rs, rv, rh⟩ = t.ends 3 := by
    unfold RS.tell
    simp [hk]
  have HE := Lib.hid he
  have c6 := hR.c6
  rw [hk] at c6
  have HK := Lib.hid hk
  have c7 := hR.c7
  have c12 := hR.c12
  have f6 := hR.fz 6
  have f7 := hR.fz 7
  have f12 := hR.fz 12
  have hlt := hR.lt
  have HR := Lib.hid hR
  clear he hk hR
  go_enter Tryd.func16, Tryd.ntmps16
  go_wp2_with fail
  refine (refEnd_any (HR.out.alloc _) 3 h16 h7 ha0 ha1).mono ?_
  rintro e w1 ⟨rfl, hP⟩
  have HP := Lib.hid hP
  clear hP
  go_wp2_with fail
  first | go_end0 | ((try simp only [Exit.inBlock, Exit.then]); refine bodyPost_ret (results_none rfl _ _ _) rfl ?_)
  rw [HE.out]
  exact ⟨rfl, RPost.from_same ((Upd.refl _ _).alloc _) HP.out⟩

set_option maxHeartbeats 1000000 in
theorem refTell_1b (hR : Ref W w g M t) (h16 : t.plan.length ≤ 16) (h7 : t.splits.length ≤ 7) (ha0 : 0 ≤ t.attempt) (ha1 : t.attempt ≤ 1048576) (hk : t.asks = 1) :
    Calls Tryd.prog 16 #[.pointer (some ⟨g, 0, none⟩), .agg #[.int .i64 0, .int .i64 1, .string rv, .bool rh]] w fun e w' => e = .returned (.tuple #[]) ∧ RPost W w g M (t.tell ⟨0, 1, rv, rh⟩) w' := by
  have he : t.tell ⟨0, 1, rv, rh⟩ = ({ t with i := -1 } : RS).begins 0 := by
    unfold RS.tell
    simp [hk]
  have HE := Lib.hid he
  have c6 := hR.c6
  rw [hk] at c6
  have HK := Lib.hid hk
  have c7 := hR.c7
  have c12 := hR.c12
  have f6 := hR.fz 6
  have f7 := hR.fz 7
  have f12 := hR.fz 12
  have hlt := hR.lt
  have HR := Lib.hid hR
  clear he hk hR
  go_enter Tryd.func16, Tryd.ntmps16
  go_wp2_with fail
  refine (refOp_any ((HR.out.set7 (-1)).alloc _) 0 (by omega)).mono ?_
  rintro e w1 ⟨rfl, hP⟩
  have HP := Lib.hid hP
  clear hP
  go_wp2_with fail
  first | go_end0 | ((try simp only [Exit.inBlock, Exit.then]); refine bodyPost_ret (results_none rfl _ _ _) rfl ?_)
  rw [HE.out]
  exact ⟨rfl, RPost.from_same (((Upd.refl _ _).at_r).alloc _) HP.out⟩

set_option maxHeartbeats 1000000 in
theorem refTell_1c (hR : Ref W w g M t) (h16 : t.plan.length ≤ 16) (h7 : t.splits.length ≤ 7) (ha0 : 0 ≤ t.attempt) (ha1 : t.attempt ≤ 1048576) (hk : t.asks = 1) (n0 : ¬ rs = 1) :
    Calls Tryd.prog 16 #[.pointer (some ⟨g, 0, none⟩), .agg #[.int .i64 0, .int .i64 rs, .string rv, .bool rh]] w fun e w' => e = .returned (.tuple #[]) ∧ RPost W w g M (t.tell ⟨0, rs, rv, rh⟩) w' := by
  have he : t.tell ⟨0, rs, rv, rh⟩ = t := by
    unfold RS.tell
    simp [hk, n0]
  have HE := Lib.hid he
  have c6 := hR.c6
  rw [hk] at c6
  have HK := Lib.hid hk
  have m0 : (rs == 1) = false := beq_eq_false_iff_ne.2 n0
  have c7 := hR.c7
  have c12 := hR.c12
  have f6 := hR.fz 6
  have f7 := hR.fz 7
  have f12 := hR.fz 12
  have hlt := hR.lt
  have HR := Lib.hid hR
  clear he hk hR n0
  go_enter Tryd.func16, Tryd.ntmps16
  go_wp2_with fail
  first | go_end0 | ((try simp only [Exit.inBlock, Exit.then]); refine bodyPost_ret (results_none rfl _ _ _) rfl ?_)
  rw [HE.out]
  exact ⟨rfl, RPost.same (HR.out.alloc _) ((Upd.refl _ _).alloc _)⟩

set_option maxHeartbeats 1000000 in
theorem refTell_1d (hR : Ref W w g M t) (h16 : t.plan.length ≤ 16) (h7 : t.splits.length ≤ 7) (ha0 : 0 ≤ t.attempt) (ha1 : t.attempt ≤ 1048576) (hk : t.asks = 1) (n0 : ¬ rc = 9) (n1 : ¬ rc = 0) :
    Calls Tryd.prog 16 #[.pointer (some ⟨g, 0, none⟩), .agg #[.int .i64 rc, .int .i64 rs, .string rv, .bool rh]] w fun e w' => e = .returned (.tuple #[]) ∧ RPost W w g M (t.tell ⟨rc, rs, rv, rh⟩) w' := by
  have he : t.tell ⟨rc, rs, rv, rh⟩ = t := by
    unfold RS.tell
    simp [hk, n0, n1]
  have HE := Lib.hid he
  have c6 := hR.c6
  rw [hk] at c6
  have HK := Lib.hid hk
  have m0 : (rc == 9) = false := beq_eq_false_iff_ne.2 n0
  have m1 : (rc == 0) = false := beq_eq_false_iff_ne.2 n1
  have c7 := hR.c7
  have c12 := hR.c12
  have f6 := hR.fz 6
  have f7 := hR.fz 7
  have f12 := hR.fz 12
  have hlt := hR.lt
  have HR := Lib.hid hR
  clear he hk hR n0 n1
  go_enter Tryd.func16, Tryd.ntmps16
  go_wp2_with fail
  first | go_end0 | ((try simp only [Exit.inBlock, Exit.then]); refine bodyPost_ret (results_none rfl _ _ _) rfl ?_)
  rw [HE.out]
  exact ⟨rfl, RPost.same (HR.out.alloc _) ((Upd.refl _ _).alloc _)⟩

set_option maxHeartbeats 1000000 in
theorem refTell_2a (hR : Ref W w g M t) (h16 : t.plan.length ≤ 16) (h7 : t.splits.length ≤ 7) (ha0 : 0 ≤ t.attempt) (ha1 : t.attempt ≤ 1048576) (hk : t.asks = 2) :
    Calls Tryd.prog 16 #[.pointer (some ⟨g, 0, none⟩), .agg #[.int .i64 9, .int .i64 rs, .string rv, .bool rh]] w fun e w' => e = .returned (.tuple #[]) ∧ RPost W w g M (t.tell ⟨9, rs, rv, rh⟩) w' := by
  have he : t.tell ⟨9, rs, rv, rh⟩ = { t with asks := 6 } := by
    unfold RS.tell
    simp [hk]
  have HE := Lib.hid he
  have c6 := hR.c6
  rw [hk] at c6
  have HK := Lib.hid hk
  have c7 := hR.c7
  have c12 := hR.c12
  have f6 := hR.fz 6
  have f7 := hR.fz 7
  have f12 := hR.fz 12
  have hlt := hR.lt
  have HR := Lib.hid hR
  clear he hk hR
  go_enter Tryd.func16, Tryd.ntmps16
  go_wp2_with fail
  first | go_end0 | ((try simp only [Exit.inBlock, Exit.then]); refine bodyPost_ret (results_none rfl _ _ _) rfl ?_)
  rw [HE.out]
  exact ⟨rfl, RPost.same ((HR.out.set6 6).alloc _) (((Upd.refl _ _).at_r).alloc _)⟩

set_option maxHeartbeats 1000000 in
theorem refTell_2b (hR : Ref W w g M t) (h16 : t.plan.length ≤ 16) (h7 : t.splits.length ≤ 7) (ha0 : 0 ≤ t.attempt) (ha1 : t.attempt ≤ 1048576) (hk : t.asks = 2) :
    Calls Tryd.prog 16 #[.pointer (some ⟨g, 0, none⟩), .agg #[.int .i64 8, .int .i64 rs, .string rv, .bool rh]] w fun e w' => e = .returned (.tuple #[]) ∧ RPost W w g M (t.tell ⟨8, rs, rv, rh⟩) w' := by
  have he : t.tell ⟨8, rs, rv, rh⟩ = { t with asks := 6 } := by
    unfold RS.tell
    simp [hk]
  have HE := Lib.hid he
  have c6 := hR.c6
  rw [hk] at c6
  have HK := Lib.hid hk
  have c7 := hR.c7
  have c12 := hR.c12
  have f6 := hR.fz 6
  have f7 := hR.fz 7
  have f12 := hR.fz 12
  have hlt := hR.lt
  have HR := Lib.hid hR
  clear he hk hR
  go_enter Tryd.func16, Tryd.ntmps16
  go_wp2_with fail
  first | go_end0 | ((try simp only [Exit.inBlock, Exit.then]); refine bodyPost_ret (results_none rfl _ _ _) rfl ?_)
  rw [HE.out]
  exact ⟨rfl, RPost.same ((HR.out.set6 6).alloc _) (((Upd.refl _ _).at_r).alloc _)⟩

set_option maxHeartbeats 1000000 in
theorem refTell_2c (hR : Ref W w g M t) (h16 : t.plan.length ≤ 16) (h7 : t.splits.length ≤ 7) (ha0 : 0 ≤ t.attempt) (ha1 : t.attempt ≤ 1048576) (hk : t.asks = 2) :
    Calls Tryd.prog 16 #[.pointer (some ⟨g, 0, none⟩), .agg #[.int .i64 10, .int .i64 rs, .string rv, .bool rh]] w fun e w' => e = .returned (.tuple #[]) ∧ RPost W w g M (t.tell ⟨10, rs, rv, rh⟩) w' := by
  have he : t.tell ⟨10, rs, rv, rh⟩ = { t with asks := 8 } := by
    unfold RS.tell
    simp [hk]
  have HE := Lib.hid he
  have c6 := hR.c6
  rw [hk] at c6
  have HK := Lib.hid hk
  have c7 := hR.c7
  have c12 := hR.c12
  have f6 := hR.fz 6
  have f7 := hR.fz 7
  have f12 := hR.fz 12
  have hlt := hR.lt
  have HR := Lib.hid hR
  clear he hk hR
  go_enter Tryd.func16, Tryd.ntmps16
  go_wp2_with fail
  first | go_end0 | ((try simp only [Exit.inBlock, Exit.then]); refine bodyPost_ret (results_none rfl _ _ _) rfl ?_)
  rw [HE.out]
  exact ⟨rfl, RPost.same ((HR.out.set6 8).alloc _) (((Upd.refl _ _).at_r).alloc _)⟩

set_option maxHeartbeats 1000000 in
theorem refTell_2d (hR : Ref W w g M t) (h16 : t.plan.length ≤ 16) (h7 : t.splits.length ≤ 7) (ha0 : 0 ≤ t.attempt) (ha1 : t.attempt ≤ 1048576) (hk : t.asks = 2) :
    Calls Tryd.prog 16 #[.pointer (some ⟨g, 0, none⟩), .agg #[.int .i64 0, .int .i64 rs, .string rv, .bool rh]] w fun e w' => e = .returned (.tuple #[]) ∧ RPost W w g M (t.tell ⟨0, rs, rv, rh⟩) w' := by
  have he : t.tell ⟨0, rs, rv, rh⟩ = { t with asks := 3 } := by
    unfold RS.tell
    simp [hk]
  have HE := Lib.hid he
  have c6 := hR.c6
  rw [hk] at c6
  have HK := Lib.hid hk
  have c7 := hR.c7
  have c12 := hR.c12
  have f6 := hR.fz 6
  have f7 := hR.fz 7
  have f12 := hR.fz 12
  have hlt := hR.lt
  have HR := Lib.hid hR
  clear he hk hR
  go_enter Tryd.func16, Tryd.ntmps16
  go_wp2_with fail
  first | go_end0 | ((try simp only [Exit.inBlock, Exit.then]); refine bodyPost_ret (results_none rfl _ _ _) rfl ?_)
  rw [HE.out]
  exact ⟨rfl, RPost.same ((HR.out.set6 3).alloc _) (((Upd.refl _ _).at_r).alloc _)⟩

set_option maxHeartbeats 1000000 in
theorem refTell_2e (hR : Ref W w g M t) (h16 : t.plan.length ≤ 16) (h7 : t.splits.length ≤ 7) (ha0 : 0 ≤ t.attempt) (ha1 : t.attempt ≤ 1048576) (hk : t.asks = 2) (n0 : ¬ rc = 9) (n1 : ¬ rc = 8) (n2 : ¬ rc = 10) (n3 : ¬ rc = 0) :
    Calls Tryd.prog 16 #[.pointer (some ⟨g, 0, none⟩), .agg #[.int .i64 rc, .int .i64 rs, .string rv, .bool rh]] w fun e w' => e = .returned (.tuple #[]) ∧ RPost W w g M (t.tell ⟨rc, rs, rv, rh⟩) w' := by
  have he : t.tell ⟨rc, rs, rv, rh⟩ = t := by
    unfold RS.tell
    simp [hk, n0, n1, n2, n3]
  have HE := Lib.hid he
  have c6 := hR.c6
  rw [hk] at c6
  have HK := Lib.hid hk
  have m0 : (rc == 9) = false := beq_eq_false_iff_ne.2 n0
  have m1 : (rc == 8) = false := beq_eq_false_iff_ne.2 n1
  have m2 : (rc == 10) = false := beq_eq_false_iff_ne.2 n2
  have m3 : (rc == 0) = false := beq_eq_false_iff_ne.2 n3
  have c7 := hR.c7
  have c12 := hR.c12
  have f6 := hR.fz 6
  have f7 := hR.fz 7
  have f12 := hR.fz 12
  have hlt := hR.lt
  have HR := Lib.hid hR
  clear he hk hR n0 n1 n2 n3
  go_enter Tryd.func16, Tryd.ntmps16
  go_wp2_with fail
  first | go_end0 | ((try simp only [Exit.inBlock, Exit.then]); refine bodyPost_ret (results_none rfl _ _ _) rfl ?_)
  rw [HE.out]
  exact ⟨rfl, RPost.same (HR.out.alloc _) ((Upd.refl _ _).alloc _)⟩

set_option maxHeartbeats 1000000 in
theorem refTell_3a (hR : Ref W w g M t) (h16 : t.plan.length ≤ 16) (h7 : t.splits.length ≤ 7) (ha0 : 0 ≤ t.attempt) (ha1 : t.attempt ≤ 1048576) (hk : t.asks = 3) :
    Calls Tryd.prog 16 #[.pointer (some ⟨g, 0, none⟩), .agg #[.int .i64 9, .int .i64 rs, .string rv, .bool rh]] w fun e w' => e = .returned (.tuple #[]) ∧ RPost W w g M (t.tell ⟨9, rs, rv, rh⟩) w' := by
  have he : t.tell ⟨9, rs, rv, rh⟩ = { t with asks := 6 } := by
    unfold RS.tell
    simp [hk]
  have HE := Lib.hid he
  have c6 := hR.c6
  rw [hk] at c6
  have HK := Lib.hid hk
  have c7 := hR.c7
  have c12 := hR.c12
  have f6 := hR.fz 6
  have f7 := hR.fz 7
  have f12 := hR.fz 12
  have hlt := hR.lt
  have HR := Lib.hid hR
  clear he hk hR
  go_enter Tryd.func16, Tryd.ntmps16
  go_wp2_with fail
  first | go_end0 | ((try simp only [Exit.inBlock, Exit.then]); refine bodyPost_ret (results_none rfl _ _ _) rfl ?_)
  rw [HE.out]
  exact ⟨rfl, RPost.same ((HR.out.set6 6).alloc _) (((Upd.refl _ _).at_r).alloc _)⟩

set_option maxHeartbeats 1000000 in
theorem refTell_3b (hR : Ref W w g M t) (h16 : t.plan.length ≤ 16) (h7 : t.splits.length ≤ 7) (ha0 : 0 ≤ t.attempt) (ha1 : t.attempt ≤ 1048576) (hk : t.asks = 3) :
    Calls Tryd.prog 16 #[.pointer (some ⟨g, 0, none⟩), .agg #[.int .i64 8, .int .i64 rs, .string rv, .bool rh]] w fun e w' => e = .returned (.tuple #[]) ∧ RPost W w g M (t.tell ⟨8, rs, rv, rh⟩) w' := by
  have he : t.tell ⟨8, rs, rv, rh⟩ = { t with asks := 6 } := by
    unfold RS.tell
    simp [hk]
  have HE := Lib.hid he
  have c6 := hR.c6
  rw [hk] at c6
  have HK := Lib.hid hk
  have c7 := hR.c7
  have c12 := hR.c12
  have f6 := hR.fz 6
  have f7 := hR.fz 7
  have f12 := hR.fz 12
  have hlt := hR.lt
  have HR := Lib.hid hR
  clear he hk hR
  go_enter Tryd.func16, Tryd.ntmps16
  go_wp2_with fail
  first | go_end0 | ((try simp only [Exit.inBlock, Exit.then]); refine bodyPost_ret (results_none rfl _ _ _) rfl ?_)
  rw [HE.out]
  exact ⟨rfl, RPost.same ((HR.out.set6 6).alloc _) (((Upd.refl _ _).at_r).alloc _)⟩

set_option maxHeartbeats 1000000 in
theorem refTell_3e (hR : Ref W w g M t) (h16 : t.plan.length ≤ 16) (h7 : t.splits.length ≤ 7) (ha0 : 0 ≤ t.attempt) (ha1 : t.attempt ≤ 1048576) (hk : t.asks = 3) (n0 : ¬ rc = 9) (n1 : ¬ rc = 8) (n2 : ¬ rc = 0) :
    Calls Tryd.prog 16 #[.pointer (some ⟨g, 0, none⟩), .agg #[.int .i64 rc, .int .i64 rs, .string rv, .bool rh]] w fun e w' => e = .returned (.tuple #[]) ∧ RPost W w g M (t.tell ⟨rc, rs, rv, rh⟩) w' := by
  have he : t.tell ⟨rc, rs, rv, rh⟩ = t := by
    unfold RS.tell
    simp [hk, n0, n1, n2]
  have HE := Lib.hid he
  have c6 := hR.c6
  rw [hk] at c6
  have HK := Lib.hid hk
  have m0 : (rc == 9) = false := beq_eq_false_iff_ne.2 n0
  have m1 : (rc == 8) = false := beq_eq_false_iff_ne.2 n1
  have m2 : (rc == 0) = false := beq_eq_false_iff_ne.2 n2
  have c7 := hR.c7
  have c12 := hR.c12
  have f6 := hR.fz 6
  have f7 := hR.fz 7
  have f12 := hR.fz 12
  have hlt := hR.lt
  have HR := Lib.hid hR
  clear he hk hR n0 n1 n2
  go_enter Tryd.func16, Tryd.ntmps16
  go_wp2_with fail
  first | go_end0 | ((try simp only [Exit.inBlock, Exit.then]); refine bodyPost_ret (results_none rfl _ _ _) rfl ?_)
  rw [HE.out]
  exact ⟨rfl, RPost.same (HR.out.alloc _) ((Upd.refl _ _).alloc _)⟩

set_option maxHeartbeats 1000000 in
theorem refTell_4a (hR : Ref W w g M t) (h16 : t.plan.length ≤ 16) (h7 : t.splits.length ≤ 7) (ha0 : 0 ≤ t.attempt) (ha1 : t.attempt ≤ 1048576) (hk : t.asks = 4) :
    Calls Tryd.prog 16 #[.pointer (some ⟨g, 0, none⟩), .agg #[.int .i64 9, .int .i64 rs, .string rv, .bool rh]] w fun e w' => e = .returned (.tuple #[]) ∧ RPost W w g M (t.tell ⟨9, rs, rv, rh⟩) w' := by
  have he : t.tell ⟨9, rs, rv, rh⟩ = { t with asks := 6 } := by
    unfold RS.tell
    simp [hk]
  have HE := Lib.hid he
  have c6 := hR.c6
  rw [hk] at c6
  have HK := Lib.hid hk
  have c7 := hR.c7
  have c12 := hR.c12
  have f6 := hR.fz 6
  have f7 := hR.fz 7
  have f12 := hR.fz 12
  have hlt := hR.lt
  have HR := Lib.hid hR
  clear he hk hR
  go_enter Tryd.func16, Tryd.ntmps16
  go_wp2_with fail
  first | go_end0 | ((try simp only [Exit.inBlock, Exit.then]); refine bodyPost_ret (results_none rfl _ _ _) rfl ?_)
  rw [HE.out]
  exact ⟨rfl, RPost.same ((HR.out.set6 6).alloc _) (((Upd.refl _ _).at_r).alloc _)⟩

set_option maxHeartbeats 1000000 in
theorem refTell_4b (hR : Ref W w g M t) (h16 : t.plan.length ≤ 16) (h7 : t.splits.length ≤ 7) (ha0 : 0 ≤ t.attempt) (ha1 : t.attempt ≤ 1048576) (hk : t.asks = 4) :
    Calls Tryd.prog 16 #[.pointer (some ⟨g, 0, none⟩), .agg #[.int .i64 8, .int .i64 rs, .string rv, .bool rh]] w fun e w' => e = .returned (.tuple #[]) ∧ RPost W w g M (t.tell ⟨8, rs, rv, rh⟩) w' := by
  have he : t.tell ⟨8, rs, rv, rh⟩ = { t with asks := 6 } := by
    unfold RS.tell
    simp [hk]
  have HE := Lib.hid he
  have c6 := hR.c6
  rw [hk] at c6
  have HK := Lib.hid hk
  have c7 := hR.c7
  have c12 := hR.c12
  have f6 := hR.fz 6
  have f7 := hR.fz 7
  have f12 := hR.fz 12
  have hlt := hR.lt
  have HR := Lib.hid hR
  clear he hk hR
  go_enter Tryd.func16, Tryd.ntmps16
  go_wp2_with fail
  first | go_end0 | ((try simp only [Exit.inBlock, Exit.then]); refine bodyPost_ret (results_none rfl _ _ _) rfl ?_)
  rw [HE.out]
  exact ⟨rfl, RPost.same ((HR.out.set6 6).alloc _) (((Upd.refl _ _).at_r).alloc _)⟩

set_option maxHeartbeats 1000000 in
theorem refTell_4d (hR : Ref W w g M t) (h16 : t.plan.length ≤ 16) (h7 : t.splits.length ≤ 7) (ha0 : 0 ≤ t.attempt) (ha1 : t.attempt ≤ 1048576) (hi0 : 0 ≤ t.i) (hi1 : t.i ≤ 16) (hk : t.asks = 4) :
    Calls Tryd.prog 16 #[.pointer (some ⟨g, 0, none⟩), .agg #[.int .i64 0, .int .i64 rs, .string rv, .bool rh]] w fun e w' => e = .returned (.tuple #[]) ∧ RPost W w g M (t.tell ⟨0, rs, rv, rh⟩) w' := by
  have he : t.tell ⟨0, rs, rv, rh⟩ = t.begins (t.i + 1) := by
    unfold RS.tell
    simp [hk]
  have HE := Lib.hid he
  have c6 := hR.c6
  rw [hk] at c6
  have HK := Lib.hid hk
  have c7 := hR.c7
  have c12 := hR.c12
  have f6 := hR.fz 6
  have f7 := hR.fz 7
  have f12 := hR.fz 12
  have hlt := hR.lt
  have HR := Lib.hid hR
  clear he hk hR
  go_enter Tryd.func16, Tryd.ntmps16
  go_wp2_with fail
  refine (refOp_any (HR.out.alloc _) (t.i + 1) (by omega)).mono ?_
  rintro e w1 ⟨rfl, hP⟩
  have HP := Lib.hid hP
  clear hP
  go_wp2_with fail
  first | go_end0 | ((try simp only [Exit.inBlock, Exit.then]); refine bodyPost_ret (results_none rfl _ _ _) rfl ?_)
  rw [HE.out]
  exact ⟨rfl, RPost.from_same ((Upd.refl _ _).alloc _) HP.out⟩

set_option maxHeartbeats 1000000 in
theorem refTell_4e (hR : Ref W w g M t) (h16 : t.plan.length ≤ 16) (h7 : t.splits.length ≤ 7) (ha0 : 0 ≤ t.attempt) (ha1 : t.attempt ≤ 1048576) (hk : t.asks = 4) (n0 : ¬ rc = 9) (n1 : ¬ rc = 8) (n2 : ¬ rc = 0) :
    Calls Tryd.prog 16 #[.pointer (some ⟨g, 0, none⟩), .agg #[.int .i64 rc, .int .i64 rs, .string rv, .bool rh]] w fun e w' => e = .returned (.tuple #[]) ∧ RPost W w g M (t.tell ⟨rc, rs, rv, rh⟩) w' := by
  have he : t.tell ⟨rc, rs, rv, rh⟩ = t := by
    unfold RS.tell
    simp [hk, n0, n1, n2]
  have HE := Lib.hid he
  have c6 := hR.c6
  rw [hk] at c6
  have HK := Lib.hid hk
  have m0 : (rc == 9) = false := beq_eq_false_iff_ne.2 n0
  have m1 : (rc == 8) = false := beq_eq_false_iff_ne.2 n1
  have m2 : (rc == 0) = false := beq_eq_false_iff_ne.2 n2
  have c7 := hR.c7
  have c12 := hR.c12
  have f6 := hR.fz 6
  have f7 := hR.fz 7
  have f12 := hR.fz 12
  have hlt := hR.lt
  have HR := Lib.hid hR
  clear he hk hR n0 n1 n2
  go_enter Tryd.func16, Tryd.ntmps16
  go_wp2_with fail
  first | go_end0 | ((try simp only [Exit.inBlock, Exit.then]); refine bodyPost_ret (results_none rfl _ _ _) rfl ?_)
  rw [HE.out]
  exact ⟨rfl, RPost.same (HR.out.alloc _) ((Upd.refl _ _).alloc _)⟩

set_option maxHeartbeats 1000000 in
theorem refTell_5a (hR : Ref W w g M t) (h16 : t.plan.length ≤ 16) (h7 : t.splits.length ≤ 7) (ha0 : 0 ≤ t.attempt) (ha1 : t.attempt ≤ 1048576) (hk : t.asks = 5) :
    Calls Tryd.prog 16 #[.pointer (some ⟨g, 0, none⟩), .agg #[.int .i64 0, .int .i64 2, .string rv, .bool rh]] w fun e w' => e = .returned (.tuple #[]) ∧ RPost W w g M (t.tell ⟨0, 2, rv, rh⟩) w' := by
  have he : t.tell ⟨0, 2, rv, rh⟩ = t.ends 2 := by
    unfold RS.tell
    simp [hk]
  have HE := Lib.hid he
  have c6 := hR.c6
  rw [hk] at c6
  have HK := Lib.hid hk
  have c7 := hR.c7
  have c12 := hR.c12
  have f6 := hR.fz 6
  have f7 := hR.fz 7
  have f12 := hR.fz 12
  have hlt := hR.lt
  have HR := Lib.hid hR
  clear he hk hR
  go_enter Tryd.func16, Tryd.ntmps16
  go_wp2_with fail
  refine (refEnd_any (HR.out.alloc _) 2 h16 h7 ha0 ha1).mono ?_
  rintro e w1 ⟨rfl, hP⟩
  have HP := Lib.hid hP
  clear hP
  go_wp2_with fail
  first | go_end0 | ((try simp only [Exit.inBlock, Exit.then]); refine bodyPost_ret (results_none rfl _ _ _) rfl ?_)
  rw [HE.out]
  exact ⟨rfl, RPost.from_same ((Upd.refl _ _).alloc _) HP.out⟩

set_option maxHeartbeats 1000000 in
theorem refTell_5b (hR : Ref W w g M t) (h16 : t.plan.length ≤ 16) (h7 : t.splits.length ≤ 7) (ha0 : 0 ≤ t.attempt) (ha1 : t.attempt ≤ 1048576) (hk : t.asks = 5) :
    Calls Tryd.prog 16 #[.pointer (some ⟨g, 0, none⟩), .agg #[.int .i64 0, .int .i64 3, .string rv, .bool rh]] w fun e w' => e = .returned (.tuple #[]) ∧ RPost W w g M (t.tell ⟨0, 3, rv, rh⟩) w' := by
  have he : t.tell ⟨0, 3, rv, rh⟩ = t.ends 3 := by
    unfold RS.tell
    simp [hk]
  have HE := Lib.hid he
  have c6 := hR.c6
  rw [hk] at c6
  have HK := Lib.hid hk
  have c7 := hR.c7
  have c12 := hR.c12
  have f6 := hR.fz 6
  have f7 := hR.fz 7
  have f12 := hR.fz 12
  have hlt := hR.lt
  have HR := Lib.hid hR
  clear he hk hR
  go_enter Tryd.func16, Tryd.ntmps16
  go_wp2_with fail
  refine (refEnd_any (HR.out.alloc _) 3 h16 h7 ha0 ha1).mono ?_
  rintro e w1 ⟨rfl, hP⟩
  have HP := Lib.hid hP
  clear hP
  go_wp2_with fail
  first | go_end0 | ((try simp only [Exit.inBlock, Exit.then]); refine bodyPost_ret (results_none rfl _ _ _) rfl ?_)
  rw [HE.out]
  exact ⟨rfl, RPost.from_same ((Upd.refl _ _).alloc _) HP.out⟩

set_option maxHeartbeats 1000000 in
theorem refTell_5c (hR : Ref W w g M t) (h16 : t.plan.length ≤ 16) (h7 : t.splits.length ≤ 7) (ha0 : 0 ≤ t.attempt) (ha1 : t.attempt ≤ 1048576) (hk : t.asks = 5) (n0 : ¬ rs = 2) (n1 : ¬ rs = 3) :
    Calls Tryd.prog 16 #[.pointer (some ⟨g, 0, none⟩), .agg #[.int .i64 0, .int .i64 rs, .string rv, .bool rh]] w fun e w' => e = .returned (.tuple #[]) ∧ RPost W w g M (t.tell ⟨0, rs, rv, rh⟩) w' := by
  have he : t.tell ⟨0, rs, rv, rh⟩ = t := by
    unfold RS.tell
    simp [hk, n0, n1]
  have HE := Lib.hid he
  have c6 := hR.c6
  rw [hk] at c6
  have HK := Lib.hid hk
  have m0 : (rs == 2) = false := beq_eq_false_iff_ne.2 n0
  have m1 : (rs == 3) = false := beq_eq_false_iff_ne.2 n1
  have c7 := hR.c7
  have c12 := hR.c12
  have f6 := hR.fz 6
  have f7 := hR.fz 7
  have f12 := hR.fz 12
  have hlt := hR.lt
  have HR := Lib.hid hR
  clear he hk hR n0 n1
  go_enter Tryd.func16, Tryd.ntmps16
  go_wp2_with fail
  first | go_end0 | ((try simp only [Exit.inBlock, Exit.then]); refine bodyPost_ret (results_none rfl _ _ _) rfl ?_)
  rw [HE.out]
  exact ⟨rfl, RPost.same (HR.out.alloc _) ((Upd.refl _ _).alloc _)⟩

set_option maxHeartbeats 1000000 in
theorem refTell_5d (hR : Ref W w g M t) (h16 : t.plan.length ≤ 16) (h7 : t.splits.length ≤ 7) (ha0 : 0 ≤ t.attempt) (ha1 : t.attempt ≤ 1048576) (hk : t.asks = 5) (n0 : ¬ rc = 0) :
    Calls Tryd.prog 16 #[.pointer (some ⟨g, 0, none⟩), .agg #[.int .i64 rc, .int .i64 rs, .string rv, .bool rh]] w fun e w' => e = .returned (.tuple #[]) ∧ RPost W w g M (t.tell ⟨rc, rs, rv, rh⟩) w' := by
  have he : t.tell ⟨rc, rs, rv, rh⟩ = t := by
    unfold RS.tell
    simp [hk, n0]
  have HE := Lib.hid he
  have c6 := hR.c6
  rw [hk] at c6
  have HK := Lib.hid hk
  have m0 : (rc == 0) = false := beq_eq_false_iff_ne.2 n0
  have c7 := hR.c7
  have c12 := hR.c12
  have f6 := hR.fz 6
  have f7 := hR.fz 7
  have f12 := hR.fz 12
  have hlt := hR.lt
  have HR := Lib.hid hR
  clear he hk hR n0
  go_enter Tryd.func16, Tryd.ntmps16
  go_wp2_with fail
  first | go_end0 | ((try simp only [Exit.inBlock, Exit.then]); refine bodyPost_ret (results_none rfl _ _ _) rfl ?_)
  rw [HE.out]
  exact ⟨rfl, RPost.same (HR.out.alloc _) ((Upd.refl _ _).alloc _)⟩

set_option maxHeartbeats 1000000 in
theorem refTell_6a (hR : Ref W w g M t) (h16 : t.plan.length ≤ 16) (h7 : t.splits.length ≤ 7) (ha0 : 0 ≤ t.attempt) (ha1 : t.attempt ≤ 1048576) (hk : t.asks = 6) :
    Calls Tryd.prog 16 #[.pointer (some ⟨g, 0, none⟩), .agg #[.int .i64 0, .int .i64 2, .string rv, .bool rh]] w fun e w' => e = .returned (.tuple #[]) ∧ RPost W w g M (t.tell ⟨0, 2, rv, rh⟩) w' := by
  have he : t.tell ⟨0, 2, rv, rh⟩ = t.ends 2 := by
    unfold RS.tell
    simp [hk]
  have HE := Lib.hid he
  have c6 := hR.c6
  rw [hk] at c6
  have HK := Lib.hid hk
  have c7 := hR.c7
  have c12 := hR.c12
  have f6 := hR.fz 6
  have f7 := hR.fz 7
  have f12 := hR.fz 12
  have hlt := hR.lt
  have HR := Lib.hid hR
  clear he hk hR
  go_enter Tryd.func16, Tryd.ntmps16
  go_wp2_with fail
  refine (refEnd_any (HR.out.alloc _) 2 h16 h7 ha0 ha1).mono ?_
  rintro e w1 ⟨rfl, hP⟩
  have HP := Lib.hid hP
  clear hP
  go_wp2_with fail
  first | go_end0 | ((try simp only [Exit.inBlock, Exit.then]); refine bodyPost_ret (results_none rfl _ _ _) rfl ?_)
  rw [HE.out]
  exact ⟨rfl, RPost.from_same ((Upd.refl _ _).alloc _) HP.out⟩

set_option maxHeartbeats 1000000 in
theorem refTell_6b (hR : Ref W w g M t) (h16 : t.plan.length ≤ 16) (h7 : t.splits.length ≤ 7) (ha0 : 0 ≤ t.attempt) (ha1 : t.attempt ≤ 1048576) (hk : t.asks = 6) :
    Calls Tryd.prog 16 #[.pointer (some ⟨g, 0, none⟩), .agg #[.int .i64 0, .int .i64 3, .string rv, .bool rh]] w fun e w' => e = .returned (.tuple #[]) ∧ RPost W w g M (t.tell ⟨0, 3, rv, rh⟩) w' := by
  have he : t.tell ⟨0, 3, rv, rh⟩ = t.ends 3 := by
    unfold RS.tell
    simp [hk]
  have HE := Lib.hid he
  have c6 := hR.c6
  rw [hk] at c6
  have HK := Lib.hid hk
  have c7 := hR.c7
  have c12 := hR.c12
  have f6 := hR.fz 6
  have f7 := hR.fz 7
  have f12 := hR.fz 12
  have hlt := hR.lt
  have HR := Lib.hid hR
  clear he hk hR
  go_enter Tryd.func16, Tryd.ntmps16
  go_wp2_with fail
  refine (refEnd_any (HR.out.alloc _) 3 h16 h7 ha0 ha1).mono ?_
  rintro e w1 ⟨rfl, hP⟩
  have HP := Lib.hid hP
  clear hP
  go_wp2_with fail
  first | go_end0 | ((try simp only [Exit.inBlock, Exit.then]); refine bodyPost_ret (results_none rfl _ _ _) rfl ?_)
  rw [HE.out]
  exact ⟨rfl, RPost.from_same ((Upd.refl _ _).alloc _) HP.out⟩

set_option maxHeartbeats 1000000 in
theorem refTell_6c (hR : Ref W w g M t) (h16 : t.plan.length ≤ 16) (h7 : t.splits.length ≤ 7) (ha0 : 0 ≤ t.attempt) (ha1 : t.attempt ≤ 1048576) (hk : t.asks = 6) (n0 : ¬ rs = 2) (n1 : ¬ rs = 3) :
    Calls Tryd.prog 16 #[.pointer (some ⟨g, 0, none⟩), .agg #[.int .i64 0, .int .i64 rs, .string rv, .bool rh]] w fun e w' => e = .returned (.tuple #[]) ∧ RPost W w g M (t.tell ⟨0, rs, rv, rh⟩) w' := by
  have he : t.tell ⟨0, rs, rv, rh⟩ = t := by
    unfold RS.tell
    simp [hk, n0, n1]
  have HE := Lib.hid he
  have c6 := hR.c6
  rw [hk] at c6
  have HK := Lib.hid hk
  have m0 : (rs == 2) = false := beq_eq_false_iff_ne.2 n0
  have m1 : (rs == 3) = false := beq_eq_false_iff_ne.2 n1
  have c7 := hR.c7
  have c12 := hR.c12
  have f6 := hR.fz 6
  have f7 := hR.fz 7
  have f12 := hR.fz 12
  have hlt := hR.lt
  have HR := Lib.hid hR
  clear he hk hR n0 n1
  go_enter Tryd.func16, Tryd.ntmps16
  go_wp2_with fail
  first | go_end0 | ((try simp only [Exit.inBlock, Exit.then]); refine bodyPost_ret (results_none rfl _ _ _) rfl ?_)
  rw [HE.out]
  exact ⟨rfl, RPost.same (HR.out.alloc _) ((Upd.refl _ _).alloc _)⟩

set_option maxHeartbeats 1000000 in
theorem refTell_6d (hR : Ref W w g M t) (h16 : t.plan.length ≤ 16) (h7 : t.splits.length ≤ 7) (ha0 : 0 ≤ t.attempt) (ha1 : t.attempt ≤ 1048576) (hk : t.asks = 6) (n0 : ¬ rc = 0) :
    Calls Tryd.prog 16 #[.pointer (some ⟨g, 0, none⟩), .agg #[.int .i64 rc, .int .i64 rs, .string rv, .bool rh]] w fun e w' => e = .returned (.tuple #[]) ∧ RPost W w g M (t.tell ⟨rc, rs, rv, rh⟩) w' := by
  have he : t.tell ⟨rc, rs, rv, rh⟩ = t := by
    unfold RS.tell
    simp [hk, n0]
  have HE := Lib.hid he
  have c6 := hR.c6
  rw [hk] at c6
  have HK := Lib.hid hk
  have m0 : (rc == 0) = false := beq_eq_false_iff_ne.2 n0
  have c7 := hR.c7
  have c12 := hR.c12
  have f6 := hR.fz 6
  have f7 := hR.fz 7
  have f12 := hR.fz 12
  have hlt := hR.lt
  have HR := Lib.hid hR
  clear he hk hR n0
  go_enter Tryd.func16, Tryd.ntmps16
  go_wp2_with fail
  first | go_end0 | ((try simp only [Exit.inBlock, Exit.then]); refine bodyPost_ret (results_none rfl _ _ _) rfl ?_)
  rw [HE.out]
  exact ⟨rfl, RPost.same (HR.out.alloc _) ((Upd.refl _ _).alloc _)⟩

set_option maxHeartbeats 1000000 in
theorem refTell_7a (hR : Ref W w g M t) (h16 : t.plan.length ≤ 16) (h7 : t.splits.length ≤ 7) (ha0 : 0 ≤ t.attempt) (ha1 : t.attempt ≤ 1048576) (ht0 : 0 ≤ t.told) (ht1 : t.told ≤ 16) (hk : t.asks = 7) :
    Calls Tryd.prog 16 #[.pointer (some ⟨g, 0, none⟩), .agg #[.int .i64 0, .int .i64 rs, .string rv, .bool rh]] w fun e w' => e = .returned (.tuple #[]) ∧ RPost W w g M (t.tell ⟨0, rs, rv, rh⟩) w' := by
  have he : t.tell ⟨0, rs, rv, rh⟩ = ({ t with told := t.told + 1 } : RS).rest := by
    unfold RS.tell
    simp [hk]
  have HE := Lib.hid he
  have c6 := hR.c6
  rw [hk] at c6
  have HK := Lib.hid hk
  have c7 := hR.c7
  have c12 := hR.c12
  have f6 := hR.fz 6
  have f7 := hR.fz 7
  have f12 := hR.fz 12
  have hlt := hR.lt
  have HR := Lib.hid hR
  clear he hk hR
  go_enter Tryd.func16, Tryd.ntmps16
  go_wp2_with fail
  refine (refRest_any ((HR.out.set12 (t.told + 1)).alloc _) h16 h7 ha0 ha1).mono ?_
  rintro e w1 ⟨rfl, hP⟩
  have HP := Lib.hid hP
  clear hP
  go_wp2_with fail
  first | go_end0 | ((try simp only [Exit.inBlock, Exit.then]); refine bodyPost_ret (results_none rfl _ _ _) rfl ?_)
  rw [HE.out]
  exact ⟨rfl, RPost.from_same (((Upd.refl _ _).at_r).alloc _) HP.out⟩

set_option maxHeartbeats 1000000 in
theorem refTell_7b (hR : Ref W w g M t) (h16 : t.plan.length ≤ 16) (h7 : t.splits.length ≤ 7) (ha0 : 0 ≤ t.attempt) (ha1 : t.attempt ≤ 1048576) (hk : t.asks = 7) (n0 : ¬ rc = 0) :
    Calls Tryd.prog 16 #[.pointer (some ⟨g, 0, none⟩), .agg #[.int .i64 rc, .int .i64 rs, .string rv, .bool rh]] w fun e w' => e = .returned (.tuple #[]) ∧ RPost W w g M (t.tell ⟨rc, rs, rv, rh⟩) w' := by
  have he : t.tell ⟨rc, rs, rv, rh⟩ = t := by
    unfold RS.tell
    simp [hk, n0]
  have HE := Lib.hid he
  have c6 := hR.c6
  rw [hk] at c6
  have HK := Lib.hid hk
  have m0 : (rc == 0) = false := beq_eq_false_iff_ne.2 n0
  have c7 := hR.c7
  have c12 := hR.c12
  have f6 := hR.fz 6
  have f7 := hR.fz 7
  have f12 := hR.fz 12
  have hlt := hR.lt
  have HR := Lib.hid hR
  clear he hk hR n0
  go_enter Tryd.func16, Tryd.ntmps16
  go_wp2_with fail
  first | go_end0 | ((try simp only [Exit.inBlock, Exit.then]); refine bodyPost_ret (results_none rfl _ _ _) rfl ?_)
  rw [HE.out]
  exact ⟨rfl, RPost.same (HR.out.alloc _) ((Upd.refl _ _).alloc _)⟩

set_option maxHeartbeats 1000000 in
theorem refTell_8a (hR : Ref W w g M t) (h16 : t.plan.length ≤ 16) (h7 : t.splits.length ≤ 7) (ha0 : 0 ≤ t.attempt) (ha1 : t.attempt ≤ 1048576) (hk : t.asks = 8) :
    Calls Tryd.prog 16 #[.pointer (some ⟨g, 0, none⟩), .agg #[.int .i64 0, .int .i64 3, .string rv, .bool rh]] w fun e w' => e = .returned (.tuple #[]) ∧ RPost W w g M (t.tell ⟨0, 3, rv, rh⟩) w' := by
  have he : t.tell ⟨0, 3, rv, rh⟩ = t.ends 3 := by
    unfold RS.tell
    simp [hk]
  have HE := Lib.hid he
  have c6 := hR.c6
  rw [hk] at c6
  have HK := Lib.hid hk
  have c7 := hR.c7
  have c12 := hR.c12
  have f6 := hR.fz 6
  have f7 := hR.fz 7
  have f12 := hR.fz 12
  have hlt := hR.lt
  have HR := Lib.hid hR
  clear he hk hR
  go_enter Tryd.func16, Tryd.ntmps16
  go_wp2_with fail
  refine (refEnd_any (HR.out.alloc _) 3 h16 h7 ha0 ha1).mono ?_
  rintro e w1 ⟨rfl, hP⟩
  have HP := Lib.hid hP
  clear hP
  go_wp2_with fail
  first | go_end0 | ((try simp only [Exit.inBlock, Exit.then]); refine bodyPost_ret (results_none rfl _ _ _) rfl ?_)
  rw [HE.out]
  exact ⟨rfl, RPost.from_same ((Upd.refl _ _).alloc _) HP.out⟩

set_option maxHeartbeats 1000000 in
theorem refTell_8b (hR : Ref W w g M t) (h16 : t.plan.length ≤ 16) (h7 : t.splits.length ≤ 7) (ha0 : 0 ≤ t.attempt) (ha1 : t.attempt ≤ 1048576) (hk : t.asks = 8) (n0 : ¬ rs = 3) :
    Calls Tryd.prog 16 #[.pointer (some ⟨g, 0, none⟩), .agg #[.int .i64 0, .int .i64 rs, .string rv, .bool rh]] w fun e w' => e = .returned (.tuple #[]) ∧ RPost W w g M (t.tell ⟨0, rs, rv, rh⟩) w' := by
  have he : t.tell ⟨0, rs, rv, rh⟩ = { t with asks := 2 } := by
    unfold RS.tell
    simp [hk, n0]
  have HE := Lib.hid he
  have c6 := hR.c6
  rw [hk] at c6
  have HK := Lib.hid hk
  have m0 : (rs == 3) = false := beq_eq_false_iff_ne.2 n0
  have c7 := hR.c7
  have c12 := hR.c12
  have f6 := hR.fz 6
  have f7 := hR.fz 7
  have f12 := hR.fz 12
  have hlt := hR.lt
  have HR := Lib.hid hR
  clear he hk hR n0
  go_enter Tryd.func16, Tryd.ntmps16
  go_wp2_with fail
  first | go_end0 | ((try simp only [Exit.inBlock, Exit.then]); refine bodyPost_ret (results_none rfl _ _ _) rfl ?_)
  rw [HE.out]
  exact ⟨rfl, RPost.same ((HR.out.set6 2).alloc _) (((Upd.refl _ _).at_r).alloc _)⟩

set_option maxHeartbeats 1000000 in
theorem refTell_8c (hR : Ref W w g M t) (h16 : t.plan.length ≤ 16) (h7 : t.splits.length ≤ 7) (ha0 : 0 ≤ t.attempt) (ha1 : t.attempt ≤ 1048576) (hk : t.asks = 8) (n0 : ¬ rc = 0) :
    Calls Tryd.prog 16 #[.pointer (some ⟨g, 0, none⟩), .agg #[.int .i64 rc, .int .i64 rs, .string rv, .bool rh]] w fun e w' => e = .returned (.tuple #[]) ∧ RPost W w g M (t.tell ⟨rc, rs, rv, rh⟩) w' := by
  have he : t.tell ⟨rc, rs, rv, rh⟩ = { t with asks := 2 } := by
    unfold RS.tell
    simp [hk, n0]
  have HE := Lib.hid he
  have c6 := hR.c6
  rw [hk] at c6
  have HK := Lib.hid hk
  have m0 : (rc == 0) = false := beq_eq_false_iff_ne.2 n0
  have c7 := hR.c7
  have c12 := hR.c12
  have f6 := hR.fz 6
  have f7 := hR.fz 7
  have f12 := hR.fz 12
  have hlt := hR.lt
  have HR := Lib.hid hR
  clear he hk hR n0
  go_enter Tryd.func16, Tryd.ntmps16
  go_wp2_with fail
  first | go_end0 | ((try simp only [Exit.inBlock, Exit.then]); refine bodyPost_ret (results_none rfl _ _ _) rfl ?_)
  rw [HE.out]
  exact ⟨rfl, RPost.same ((HR.out.set6 2).alloc _) (((Upd.refl _ _).at_r).alloc _)⟩
end
end Go.Proofs.YtheecdjpbfkpdaaDoor
