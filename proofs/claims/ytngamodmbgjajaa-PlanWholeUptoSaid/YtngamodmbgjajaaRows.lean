/-
  No cell of these rows narrows 'for every input' (looked for: loops, veiled, ifaces, maps, wideKeys, modest, calm, conditions, laid).
  DERIVED. THE GIVEN ROWS OF THIS SEAT. 3 by the template 'for every input the law returns true; each argument reads behind the call as it read before'; 0 by the template 'total and deterministic' (their statements: YtngamodmbgjajaaTotals.lean).
  GIVEN WITH THE SEED: the statements are not yours to turn. If you find one false, say at which input.
  Laid BY PROGRAM, IN A SANDBOX (cutbox-rows.mjs): the forced cells as the released guide's own fill.sh prints them over the translation 2484087099699d31… (all of the seat's roots in one cut). By AI agents, Wed Nov 11 2026. No macro, syntax, notation, axiom, sorry.
-/
import Derived.Test.YtngamodmbgjajaaChecked
import GoSem.Claim
import GoSem.ClaimJoined
import GoSem.ClaimMapViews
import Derived.JoinedTies
import Derived.KernelRfl
namespace Go.Proofs.Ytngamodmbgjajaa
/- THE CELL 'sum', in the pinned program and in every row, IS THE sha256 OF THE DUMP (.gsa) THAT YtngamodmbgjajaaProg.lean LOADS. Nothing in Lean hashes anything: it is a label: what it is worth is what the hold of that sum in a sandbox is worth. -/
noncomputable def Try.pinned : Pinned := { name := "ytngamodmbgjajaa", sum := "2484087099699d31e652d4ad7eeff9e7f4bd08d886f7360a00991f40b8de2263", checked := Try.checked }
namespace Rows
def none {H : Type} : Left H := { results := [], args := [] }

/-- 'mandatelaw13.PlanOrders': WHATEVER THE INPUT: true; the input reads as it did. -/
def planOrdersSpec : ChangeSpec := { name := "planOrders", fn := fun _ => fun
  | [d1, d2] => { results := [.lit (.bool true)], args := [d1, d2] }
  | _ => none }
def planOrdersRow : OpenClaim := { program := "ytngamodmbgjajaa", sum := "2484087099699d31e652d4ad7eeff9e7f4bd08d886f7360a00991f40b8de2263", func := "mandate/mandatelaw13.PlanOrders", spec := "planOrders", unfollowed := true, recurses := true, apart := false }
def PlanOrdersSaid : Prop := planOrdersRow.holds Try.pinned (OpenSpec.ofChange planOrdersSpec)

/-- ITS FALSE NEIGHBOUR: 'it returns false'. Refute it at one input. -/
def planOrdersWrong : ChangeSpec := { name := "planOrders", fn := fun _ => fun
  | [d1, d2] => { results := [.lit (.bool false)], args := [d1, d2] }
  | _ => none }
def PlanOrdersWrongFalsely : Prop := planOrdersRow.holds Try.pinned (OpenSpec.ofChange planOrdersWrong)

/-- 'mandatelaw13.PlanVars': WHATEVER THE INPUT: true; the input reads as it did. -/
def planVarsSpec : ChangeSpec := { name := "planVars", fn := fun _ => fun
  | [d1, d2] => { results := [.lit (.bool true)], args := [d1, d2] }
  | _ => none }
def planVarsRow : OpenClaim := { program := "ytngamodmbgjajaa", sum := "2484087099699d31e652d4ad7eeff9e7f4bd08d886f7360a00991f40b8de2263", func := "mandate/mandatelaw13.PlanVars", spec := "planVars", unfollowed := true, recurses := true, apart := false }
def PlanVarsSaid : Prop := planVarsRow.holds Try.pinned (OpenSpec.ofChange planVarsSpec)

/-- ITS FALSE NEIGHBOUR: 'it returns false'. Refute it at one input. -/
def planVarsWrong : ChangeSpec := { name := "planVars", fn := fun _ => fun
  | [d1, d2] => { results := [.lit (.bool false)], args := [d1, d2] }
  | _ => none }
def PlanVarsWrongFalsely : Prop := planVarsRow.holds Try.pinned (OpenSpec.ofChange planVarsWrong)

/-- 'mandatelaw13.PlanWhole': WHATEVER THE INPUT: true; the input reads as it did. -/
def planWholeSpec : ChangeSpec := { name := "planWhole", fn := fun _ => fun
  | [d1, d2] => { results := [.lit (.bool true)], args := [d1, d2] }
  | _ => none }
def planWholeRow : OpenClaim := { program := "ytngamodmbgjajaa", sum := "2484087099699d31e652d4ad7eeff9e7f4bd08d886f7360a00991f40b8de2263", func := "mandate/mandatelaw13.PlanWhole", spec := "planWhole", unfollowed := true, recurses := true, apart := false }
def PlanWholeSaid : Prop := planWholeRow.holds Try.pinned (OpenSpec.ofChange planWholeSpec)

/-- ITS FALSE NEIGHBOUR: 'it returns false'. Refute it at one input. -/
def planWholeWrong : ChangeSpec := { name := "planWhole", fn := fun _ => fun
  | [d1, d2] => { results := [.lit (.bool false)], args := [d1, d2] }
  | _ => none }
def PlanWholeWrongFalsely : Prop := planWholeRow.holds Try.pinned (OpenSpec.ofChange planWholeWrong)

/- THE SECOND FORM. 'bulk': how many values and letters a reading holds, each counted each time it is reached (what is shared counts as often as it is met; a slice's spare places count too). A statement '..UptoSaid' is the law's where the arguments, and the package variables that the reading takes, are together of bulk at most 1048576: NARROWER than '..Said'. Prove '..Said' where nothing that the law and all that it calls make is longer than what came in: it says more and counts as full. Else prove '..UptoSaid'. A law counts once. -/
mutual
def uptoBulk {H : Type} : DataW H → Nat
  | .lit (.string bytes) => bytes.length + 1
  | .lit _ => 1
  | .nil => 1
  | .ptr d => uptoBulk d + 1
  | .slice elems spare => uptoBulkAll elems + uptoBulkAll spare + 1
  | .agg parts => uptoBulkAll parts + 1
  | .iface _ d => uptoBulk d + 1
  | .map entries => uptoBulkEntries entries + 1
  | .held _ => 1
def uptoBulkAll {H : Type} : List (DataW H) → Nat
  | [] => 0
  | d :: r => uptoBulk d + uptoBulkAll r
def uptoBulkEntries {H : Type} : List (Lit × DataW H) → Nat
  | [] => 0
  | x :: r => uptoBulkEntry x + uptoBulkEntries r
def uptoBulkEntry {H : Type} : Lit × DataW H → Nat
  | (.string bytes, d) => bytes.length + uptoBulk d + 1
  | (_, d) => uptoBulk d + 1
 end
def uptoSmall : (H : Type) → List (DataW H) → Bool := fun _ ds => decide (uptoBulkAll ds ≤ 1048576)
def OpenSpec.upto (s : _root_.Go.ChangeSpec) : _root_.Go.OpenSpec := { _root_.Go.OpenSpec.ofChange s with cond := some uptoSmall }

/-- 'mandatelaw13.PlanOrders', WHERE WHAT IT READS IS OF BULK AT MOST 1048576: true; the input reads as it did. -/
def planOrdersUptoRow : OpenClaim := { program := "ytngamodmbgjajaa", sum := "2484087099699d31e652d4ad7eeff9e7f4bd08d886f7360a00991f40b8de2263", func := "mandate/mandatelaw13.PlanOrders", spec := "planOrders", unfollowed := true, recurses := true, apart := false, narrowed := true }
def PlanOrdersUptoSaid : Prop := planOrdersUptoRow.holds Try.pinned (OpenSpec.upto planOrdersSpec)

/-- 'mandatelaw13.PlanVars', WHERE WHAT IT READS IS OF BULK AT MOST 1048576: true; the input reads as it did. -/
def planVarsUptoRow : OpenClaim := { program := "ytngamodmbgjajaa", sum := "2484087099699d31e652d4ad7eeff9e7f4bd08d886f7360a00991f40b8de2263", func := "mandate/mandatelaw13.PlanVars", spec := "planVars", unfollowed := true, recurses := true, apart := false, narrowed := true }
def PlanVarsUptoSaid : Prop := planVarsUptoRow.holds Try.pinned (OpenSpec.upto planVarsSpec)

/-- 'mandatelaw13.PlanWhole', WHERE WHAT IT READS IS OF BULK AT MOST 1048576: true; the input reads as it did. -/
def planWholeUptoRow : OpenClaim := { program := "ytngamodmbgjajaa", sum := "2484087099699d31e652d4ad7eeff9e7f4bd08d886f7360a00991f40b8de2263", func := "mandate/mandatelaw13.PlanWhole", spec := "planWhole", unfollowed := true, recurses := true, apart := false, narrowed := true }
def PlanWholeUptoSaid : Prop := planWholeUptoRow.holds Try.pinned (OpenSpec.upto planWholeSpec)

end Rows
end Go.Proofs.Ytngamodmbgjajaa
