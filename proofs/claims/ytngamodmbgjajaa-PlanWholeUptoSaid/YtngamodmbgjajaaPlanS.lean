/- The plan that begins with a literal; the kinds, one more. No condition beyond those each theorem names. -/
import Derived.Test.YtngamodmbgjajaaPlanR
namespace Go.Proofs.Ytngamodmbgjajaa.PPlanOrders
open Go.RowKit Go.Proofs.YtngamodmbgjajaaW.PrintWords Go.Proofs.YtngamodmbgjajaaW.PrintLast Go.Proofs.YtngamodmbgjajaaW.PrintMore
set_option linter.unusedVariables false
set_option linter.unusedSimpArgs false

theorem kinds_take {body : List S24} {i : Nat} (hi : i < body.length) : kindsOk (body.take (i + 1)) = (kindsOk (body.take i) && decide (1 ≤ (rd_T24 body (i : Int)).f0 ∧ (rd_T24 body (i : Int)).f0 ≤ 4)) := by
  have : rd_T24 body (i : Int) = body[i] := by simp [rd_T24, hi]
  rw [this, List.take_add_one, List.getElem?_eq_getElem hi]
  unfold kindsOk
  rw [List.all_append]
  congr 1
  show (decide _ && true) = _
  rw [Bool.and_true]
/-- The plan that begins with a literal. -/
def fromP (body : List S24) (k : Int) : List Int × Bool := if 0 ≤ k ∧ k < body.length ∧ (rd_T24 body k).f0 = 1 then planP body [k] else ([], false)

end Go.Proofs.Ytngamodmbgjajaa.PPlanOrders
