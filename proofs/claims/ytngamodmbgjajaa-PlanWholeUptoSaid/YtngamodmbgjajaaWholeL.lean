/- PlanWhole answers true for every rule and number whose bulk is at most the second form's bound, and leaves them as they were. Condition: the bulk. -/
import Derived.Test.YtngamodmbgjajaaRows
import Derived.Test.YtngamodmbgjajaaRuleIn
import Derived.Test.YtngamodmbgjajaaWholeW
import Derived.WalkKit
import Derived.ProofKit
import Derived.OpenShut
import Derived.ShutString
import Derived.ChangeOld
import Derived.Below
import Derived.JoinedCond
namespace Go.Proofs.Ytngamodmbgjajaa.WholeRow
open Go.ChangeShapes Go.WideShapes Go.ChangeAt Go.RowKit Go.Proofs.YtngamodmbgjajaaW.PrintWords
set_option linter.unusedVariables false
theorem own : ownKnob Try.prog.godebug = none := by kernel_rfl
theorem laid : laidOutB Try.prog = true := by kernel_rfl

set_option maxRecDepth 100000 in
theorem contract (H : Type) (enc : TypeId × Value → H) (W : World) (base : Nat) (args : Array Value) (ds gs : List (DataW H)) (before : List MemPlace)
    (hval0 : ∀ (j : Nat) t v, Try.f5.params[j]? = some t → args[j]? = some v → Value.okWide Try.prog W .any base t v)
    (hW : DataW.Whole enc Try.prog Try.f5.params.toList Rows.planWholeSpec.vars false W args.toList ds gs before) (hk : Rows.uptoSmall H (ds ++ gs) = true) :
    Calls Try.prog 5 args W fun e W' => ∃ v, e = .returned v ∧ Rows.planWholeSpec.post enc Try.prog Try.f5 false true false false W args v W' := by
  have hval : ∀ (j : Nat) t v, Try.f5.params[j]? = some t → args[j]? = some v → Value.okWide Try.prog W .any base t v := hval0
  have hW' := hW
  obtain ⟨p, q, hA0, hV, rfl, hfz, hnd⟩ := hW
  have hA : DataW.TrodAll enc Try.prog W 0 (fun _ => true) true Try.f5.params.toList args.toList ds p := hA0
  rw [Try.params5] at hA hval
  obtain ⟨v0, v1, d0, d1, p0, p1, rfl, rfl, rfl, h0, h1⟩ := trodAll_two hA
  obtain ⟨rfl, rfl⟩ := trodVars_none hV
  obtain ⟨cs, rfl, hsz⟩ := okWide_struct Try.underlying27 (hval 0 27 _ rfl rfl)
  obtain ⟨k, rfl⟩ := okWide_int Try.underlying3 (hval 1 3 _ rfl rfl)
  have h0k := h0
  have h1k := h1
  obtain ⟨m0, hm0⟩ := h0
  have hbd : Rows.uptoBulkAll [d0, d1] ≤ 1048576 := of_decide_eq_true hk
  have hbe : Rows.uptoBulkAll [d0, d1] = Rows.uptoBulk d0 + Rows.uptoBulk d1 := by simp only [Rows.uptoBulkAll]; omega
  obtain ⟨a, b, A2, c2, hd_, A3, c3, body, rfl, hC2, hl2, hh, hC3, hl3, hlb, hS⟩ := RuleIn.rule_in (x := (d0, p0)) hm0 (by show Rows.uptoBulk d0 ≤ _; omega)
  clear hm0 hA0 hval0 hA hk
  refine (PPlanOrders.Whole_calls W a b A2 c2 hd_ hC2 hl2 hh A3 c3 body hC3 hl3 hS (by omega) k).mono fun e W' ⟨he, bel⟩ => ?_
  subst he
  have lt0 : ∀ x ∈ p0, x.block < W.heap.size := fun x hx => by simpa using hW'.lt x (by simp [hx])
  have lt1 : ∀ x ∈ p1, x.block < W.heap.size := fun x hx => by simpa using hW'.lt x (by simp [hx])
  exact ⟨_, rfl, _, _, _, [], p0 ++ p1, [], hW', trodAll_mk1 (shut_bool Try.underlying4 _), trodAll_mk2 (Below.trod laid (by kernel_rfl) (of_decide_eq_true (by kernel_rfl)) h0k bel lt0) (Below.trod laid (by kernel_rfl) (of_decide_eq_true (by kernel_rfl)) h1k bel lt1), rfl, bel.frame _, fun h => by cases h⟩

set_option maxRecDepth 100000 in
theorem lifted (os : Os) (started : os.Started) (H : Type) (enc : TypeId × Value → H) (F : Stop.Interp) :
    ReturnsInHanded {} Try.checked os 5 .any ((Rows.OpenSpec.upto Rows.planWholeSpec).pre6 enc Try.prog Try.f5 Rows.planWholeUptoRow.domain false) (((Rows.OpenSpec.upto Rows.planWholeSpec).at F).post enc Try.prog Try.f5 false true false false) := by
  refine returnsInHanded_of_cond (C := Try.checked) (s := Rows.OpenSpec.upto Rows.planWholeSpec) (k := Rows.uptoSmall) rfl own started (by kernel_rfl) Try.func5
    (OpenSpec.witness (enc := enc) (C := Try.checked) (s := Rows.OpenSpec.upto Rows.planWholeSpec) (k := Rows.uptoSmall) rfl false ⟨#[], #[.agg #[.int .u8 0, .string .empty, .slice none 0 0, .slice none 0 0], .int .i64 0], []⟩ 8 (by kernel_rfl) (by kernel_rfl) (by kernel_rfl)
      (x := ([.agg [.agg [.lit (.int .u8 0), .lit (.string []), .nil], .nil], .lit (.int .i64 0)], [], [])) (by kernel_rfl) rfl (by kernel_rfl)) ?_
  intro W base args ds gs before hval hW _ hk _
  exact contract H enc W base args ds gs before hval hW hk

theorem proved : Rows.PlanWholeUptoSaid :=
  OpenClaim.holds_of_cond 5 Try.f5 rfl rfl rfl rfl rfl rfl rfl ⟨rfl, rfl, rfl, rfl, rfl⟩ rfl rfl rfl rfl rfl (by kernel_rfl) Try.func5 (by kernel_rfl)
    (of_decide_eq_true (by kernel_rfl)) (by unfold Func.isWrapper; first | (rw [if_pos (by decide +kernel)]; kernel_rfl) | (rw [if_neg (by decide +kernel)]; exact ⟨rfl, rfl⟩))
    (fun os started H enc _ F => lifted os started H enc F)
#print axioms proved
end Go.Proofs.Ytngamodmbgjajaa.WholeRow
namespace Go.Proofs.Ytngamodmbgjajaa
/-- The row, under a short name, for the claim. -/
theorem planWhole_holds : Rows.PlanWholeUptoSaid := WholeRow.proved
end Go.Proofs.Ytngamodmbgjajaa
