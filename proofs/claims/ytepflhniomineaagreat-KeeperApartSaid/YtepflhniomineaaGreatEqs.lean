/- '==' of structs of numbers as one Bool. -/
import Derived.Test.YtepflhniomineaaGreatProg
import Derived.Laws.StructEq
import Derived.WalkKit
import Derived.WalkLawsBesides
namespace Go.Proofs.YtepflhniomineaaGreat
open Go.RowKit
section
variable {P : Program} {d : Nat} {xs ys : Array Value} {f : Field} {fs : List Field} {r s : Bool} {w : World}
theorem eqf_cons {a b : Value} (hn : f.name ≠ "_") (ha : (part f.type xs f.offset).run P w = .ok a w) (hb : (part f.type ys f.offset).run P w = .ok b w)
    (he : (Op.equalIn d f.type a b).run P w = .ok r w) (hr : r = true → (Op.eqFields d xs ys fs).run P w = .ok s w) : (Op.eqFields d xs ys (f :: fs)).run P w = .ok (r && s) w := by
  rw [Op.eqFields]
  simp only [if_pos hn, Sem.run_bind, ha, hb, he, Result.andThen_ok]
  cases r
  · simp
  · simpa using hr rfl
theorem eqf_nil : (Op.eqFields d xs ys []).run P w = .ok true w := by simp [Op.eqFields]
theorem eq_struct {t : TypeId} {fs : Array Field} (hu : P.underlying t = some (.struct fs)) (hp : P.stoodInHeld t = false) (h : (Op.eqFields d xs ys fs.toList).run P w = .ok r w) : (Op.equalIn (d + 1) t (.agg xs) (.agg ys)).run P w = .ok r w := by
  have hf : P.fieldsOf t = fs := by simp [Program.fieldsOf, hu]
  rw [run_equalIn_struct (P := P) w d t xs ys (by rw [hf]; exact hu) hp, hf]
  exact h
theorem eql_of {t : TypeId} (h : ∀ d, (Op.equalIn (d + 5) t (.agg xs) (.agg ys)).run P w = .ok r w) : (binOp .eql t (.agg xs) (.agg ys)).run P w = .ok (.bool (r)) w := by
  have h' := h 9995
  simp only [Nat.reduceAdd] at h'
  simp [binOp, Op.equal, Op.maxDepth, h']
theorem neq_of {t : TypeId} (h : ∀ d, (Op.equalIn (d + 5) t (.agg xs) (.agg ys)).run P w = .ok r w) : (binOp .neq t (.agg xs) (.agg ys)).run P w = .ok (.bool (!r)) w := by
  have h' := h 9995
  simp only [Nat.reduceAdd] at h'
  simp [binOp, Op.equal, Op.maxDepth, h']
end
theorem eq_int (d : Nat) (a b : Int) (w : World) : (Op.equalIn (d + 1) 3 (.int .i64 a) (.int .i64 b)).run Tryz.prog w = .ok (a == b) w := by
  simp [Op.equalIn, run_underlying Tryz.underlying3]
theorem eq_ballot (d : Nat) (a1 a2 a3 b1 b2 b3 : Int) (w : World) :
    (Op.equalIn (d + 2) 103 (.agg #[.int .i64 a1, .int .i64 a2, .int .i64 a3]) (.agg #[.int .i64 b1, .int .i64 b2, .int .i64 b3])).run Tryz.prog w = .ok (a1 == b1 && (a2 == b2 && (a3 == b3 && true))) w := by
  refine eq_struct Tryz.underlying103 (by kernel_rfl) ?_
  refine eqf_cons (by decide) (by kernel_rfl) (by kernel_rfl) (eq_int _ _ _ _) fun _ => ?_
  refine eqf_cons (by decide) (by kernel_rfl) (by kernel_rfl) (eq_int _ _ _ _) fun _ => ?_
  refine eqf_cons (by decide) (by kernel_rfl) (by kernel_rfl) (eq_int _ _ _ _) fun _ => ?_
  exact eqf_nil
theorem eq_place (d : Nat) (a1 a2 b1 b2 : Int) (w : World) :
    (Op.equalIn (d + 2) 23 (.agg #[.int .i64 a1, .int .i64 a2]) (.agg #[.int .i64 b1, .int .i64 b2])).run Tryz.prog w = .ok (a1 == b1 && (a2 == b2 && true)) w := by
  refine eq_struct Tryz.underlying23 (by kernel_rfl) ?_
  refine eqf_cons (by decide) (by kernel_rfl) (by kernel_rfl) (eq_int _ _ _ _) fun _ => ?_
  refine eqf_cons (by decide) (by kernel_rfl) (by kernel_rfl) (eq_int _ _ _ _) fun _ => ?_
  exact eqf_nil
theorem eq_op (d : Nat) (a1 a2 a3 a4 a5 b1 b2 b3 b4 b5 : Int) (w : World) :
    (Op.equalIn (d + 2) 52 (.agg #[.int .i64 a1, .int .i64 a2, .int .i64 a3, .int .i64 a4, .int .i64 a5]) (.agg #[.int .i64 b1, .int .i64 b2, .int .i64 b3, .int .i64 b4, .int .i64 b5])).run Tryz.prog w =
      .ok (a1 == b1 && (a2 == b2 && (a3 == b3 && (a4 == b4 && (a5 == b5 && true))))) w := by
  refine eq_struct Tryz.underlying52 (by kernel_rfl) ?_
  refine eqf_cons (by decide) (by kernel_rfl) (by kernel_rfl) (eq_int _ _ _ _) fun _ => ?_
  refine eqf_cons (by decide) (by kernel_rfl) (by kernel_rfl) (eq_int _ _ _ _) fun _ => ?_
  refine eqf_cons (by decide) (by kernel_rfl) (by kernel_rfl) (eq_int _ _ _ _) fun _ => ?_
  refine eqf_cons (by decide) (by kernel_rfl) (by kernel_rfl) (eq_int _ _ _ _) fun _ => ?_
  refine eqf_cons (by decide) (by kernel_rfl) (by kernel_rfl) (eq_int _ _ _ _) fun _ => ?_
  exact eqf_nil
theorem run_eql_ballot (a1 a2 a3 b1 b2 b3 : Int) (w : World) :
    (binOp .eql 103 (.agg #[.int .i64 a1, .int .i64 a2, .int .i64 a3]) (.agg #[.int .i64 b1, .int .i64 b2, .int .i64 b3])).run Tryz.prog w = .ok (.bool (a1 == b1 && (a2 == b2 && (a3 == b3 && true)))) w :=
  eql_of fun _ => eq_ballot _ _ _ _ _ _ _ _
theorem run_neq_ballot (a1 a2 a3 b1 b2 b3 : Int) (w : World) :
    (binOp .neq 103 (.agg #[.int .i64 a1, .int .i64 a2, .int .i64 a3]) (.agg #[.int .i64 b1, .int .i64 b2, .int .i64 b3])).run Tryz.prog w = .ok (.bool (!(a1 == b1 && (a2 == b2 && (a3 == b3 && true))))) w :=
  neq_of fun _ => eq_ballot _ _ _ _ _ _ _ _
theorem run_eql_op (a1 a2 a3 a4 a5 b1 b2 b3 b4 b5 : Int) (w : World) :
    (binOp .eql 52 (.agg #[.int .i64 a1, .int .i64 a2, .int .i64 a3, .int .i64 a4, .int .i64 a5]) (.agg #[.int .i64 b1, .int .i64 b2, .int .i64 b3, .int .i64 b4, .int .i64 b5])).run Tryz.prog w =
      .ok (.bool (a1 == b1 && (a2 == b2 && (a3 == b3 && (a4 == b4 && (a5 == b5 && true)))))) w := eql_of fun _ => eq_op _ _ _ _ _ _ _ _ _ _ _ _
theorem run_neq_op (a1 a2 a3 a4 a5 b1 b2 b3 b4 b5 : Int) (w : World) :
    (binOp .neq 52 (.agg #[.int .i64 a1, .int .i64 a2, .int .i64 a3, .int .i64 a4, .int .i64 a5]) (.agg #[.int .i64 b1, .int .i64 b2, .int .i64 b3, .int .i64 b4, .int .i64 b5])).run Tryz.prog w =
      .ok (.bool (!(a1 == b1 && (a2 == b2 && (a3 == b3 && (a4 == b4 && (a5 == b5 && true))))))) w := neq_of fun _ => eq_op _ _ _ _ _ _ _ _ _ _ _ _
theorem run_eql_place (a1 a2 b1 b2 : Int) (w : World) :
    (binOp .eql 23 (.agg #[.int .i64 a1, .int .i64 a2]) (.agg #[.int .i64 b1, .int .i64 b2])).run Tryz.prog w = .ok (.bool (a1 == b1 && (a2 == b2 && true))) w := eql_of fun _ => eq_place _ _ _ _ _ _
theorem run_neq_place (a1 a2 b1 b2 : Int) (w : World) :
    (binOp .neq 23 (.agg #[.int .i64 a1, .int .i64 a2]) (.agg #[.int .i64 b1, .int .i64 b2])).run Tryz.prog w = .ok (.bool (!(a1 == b1 && (a2 == b2 && true)))) w := neq_of fun _ => eq_place _ _ _ _ _ _
end Go.Proofs.YtepflhniomineaaGreat
