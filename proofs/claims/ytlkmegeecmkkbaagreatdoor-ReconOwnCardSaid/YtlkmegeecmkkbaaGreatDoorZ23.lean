/-
  Parts of the proof, one behind the other: PEqA52. Each is a contract of a function of the program, or a plain law; no condition of its own beyond what each theorem says.
-/
import Derived.Test.YtlkmegeecmkkbaaGreatDoorZ2
namespace Go.Proofs.YtlkmegeecmkkbaaGreatDoor.P
open Go.RowKit Go.Proofs.YtlkmegeecmkkbaaGreatDoorW.PrintWords Go.Proofs.YtlkmegeecmkkbaaGreatDoorW.PrintLast Go.Proofs.YtlkmegeecmkkbaaGreatDoorW.PrintMore
attribute [local go_sem] max2_int min2_int max_two min_two max_three min_three max_four min_four   -- for this text's walks alone
attribute [local go_sem] str_leq str_gtr str_geq
set_option linter.unusedVariables false
set_option linter.unusedSimpArgs false
theorem eqA52 (d : Nat) (w : World) (x0 y0 : ByteArray) (x1 y1 : Bool) (x2 y2 : ByteArray) :
    (Op.equalIn (d + 2) 52 (.agg #[.string x0, .bool x1, .string x2]) (.agg #[.string y0, .bool y1, .string y2])).run Tryz.prog w = .ok (x0.toList == y0.toList && (x1 == y1 && (x2.toList == y2.toList))) w := by
  refine eqA_of Tryz.underlying52 (by kernel_rfl) ?_
  refine eqf_cons (by rfl) (by go_simp; rfl) (by go_simp; rfl) (by go_simp) ?_
  refine eqf_cons (by rfl) (by go_simp; rfl) (by go_simp; rfl) (by go_simp) ?_
  exact eqf_last (by rfl) (by go_simp; rfl) (by go_simp; rfl) (by go_simp)
end Go.Proofs.YtlkmegeecmkkbaaGreatDoor.P
