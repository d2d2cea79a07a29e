/-
  '==' of commands as one Bool.
-/
import Derived.Test.YtheecdjpbfkpdaaDoorDw1
import Derived.Laws.StructEq
namespace Go.Proofs.YtheecdjpbfkpdaaDoor
open Go.RowKit
section
variable {P : Program} {d : Nat} {xs ys : Array Value} {f : Field} {fs : List Field} {a b : Value} {r s : Bool} {w : World}
theorem eqf_last (hn : (f.name == "_") = false) (ha : (part f.type xs f.offset).run P w = .ok a w) (hb : (part f.type ys f.offset).run P w = .ok b w) (he : (Op.equalIn d f.type a b).run P w = .ok r w) : (Op.eqFields d xs ys [f]).run P w = .ok r w := by
  have hn' : f.name ≠ "_" := by simpa using hn
  simp only [Op.eqFields, if_pos hn', Sem.run_bind, ha, hb, he, Result.andThen_ok]
  cases r <;> simp
theorem eqf_cons (hn : (f.name == "_") = false) (ha : (part f.type xs f.offset).run P w = .ok a w) (hb : (part f.type ys f.offset).run P w = .ok b w) (he : (Op.equalIn d f.type a b).run P w = .ok r w) (hr : (Op.eqFields d xs ys fs).run P w = .ok s w) : (Op.eqFields d xs ys (f :: fs)).run P w = .ok (r && s) w := by
  have hn' : f.name ≠ "_" := by simpa using hn
  rw [Op.eqFields]
  simp only [if_pos hn', Sem.run_bind, ha, hb, he, Result.andThen_ok]
  cases r
  · simp
  · simpa using hr
theorem eqA_of {t : TypeId} {fs : Array Field} (hu : P.underlying t = some (.struct fs)) (hp : P.stoodInHeld t = false) (h : (Op.eqFields d xs ys fs.toList).run P w = .ok r w) : (Op.equalIn (d + 1) t (.agg xs) (.agg ys)).run P w = .ok r w := by
  have hf : P.fieldsOf t = fs := by simp [Program.fieldsOf, hu]
  rw [run_equalIn_struct (P := P) w d t xs ys (by rw [hf]; exact hu) hp, hf]
  exact h
end
/-- Are two commands the same? -/
def cmdEq (a b : CmdS) : Bool := (a.kind == b.kind) && ((a.tx == b.tx) && ((a.attempt == b.attempt) && ((a.stamp == b.stamp) && ((a.op == b.op) && ((a.key.toList == b.key.toList) && ((a.value.toList == b.value.toList) && ((a.mode == b.mode) && (a.yes == b.yes))))))))
theorem cmdEq_refl (a : CmdS) : cmdEq a a = true := by simp [cmdEq]
theorem cmdEq_op {a b : CmdS} (h : a.op ≠ b.op) : cmdEq a b = false := by simp [cmdEq, h]
theorem eqCmd (d : Nat) (w : World) (a b : CmdS) :
    (Op.equalIn (d + 2) 38 (.agg #[.int .i64 a.kind, .int .i64 a.tx, .int .i64 a.attempt, .int .i64 a.stamp, .int .i64 a.op, .string a.key, .string a.value, .int .i64 a.mode, .bool a.yes]) (.agg #[.int .i64 b.kind, .int .i64 b.tx, .int .i64 b.attempt, .int .i64 b.stamp, .int .i64 b.op, .string b.key, .string b.value, .int .i64 b.mode, .bool b.yes])).run Tryd.prog w = .ok (cmdEq a b) w := by
  refine eqA_of Tryd.underlying38 (by kernel_rfl) ?_
  unfold cmdEq
  refine eqf_cons (by rfl) (by go_simp; rfl) (by go_simp; rfl) (by go_simp) ?_
  refine eqf_cons (by rfl) (by go_simp; rfl) (by go_simp; rfl) (by go_simp) ?_
  refine eqf_cons (by rfl) (by go_simp; rfl) (by go_simp; rfl) (by go_simp) ?_
  refine eqf_cons (by rfl) (by go_simp; rfl) (by go_simp; rfl) (by go_simp) ?_
  refine eqf_cons (by rfl) (by go_simp; rfl) (by go_simp; rfl) (by go_simp) ?_
  refine eqf_cons (by rfl) (by go_simp; rfl) (by go_simp; rfl) (by go_simp) ?_
  refine eqf_cons (by rfl) (by go_simp; rfl) (by go_simp; rfl) (by go_simp) ?_
  refine eqf_cons (by rfl) (by go_simp; rfl) (by go_simp; rfl) (by go_simp) ?_
  exact eqf_last (by rfl) (by go_simp; rfl) (by go_simp; rfl) (by go_simp)
end Go.Proofs.YtheecdjpbfkpdaaDoor
