/-
  No cell of these rows narrows 'for every input' (looked for: loops, veiled, ifaces, maps, wideKeys, modest, calm, conditions, laid).
  DERIVED. THE GIVEN ROWS OF THIS SEAT. 5 by the template 'for every input the law returns true; each argument reads behind the call as it read before'; 0 by the template 'total and deterministic' (their statements: YtjkicljcmognhaaTotals.lean).
  GIVEN WITH THE SEED: the statements are not yours to turn. If you find one false, say at which input.
  Laid BY PROGRAM, IN A SANDBOX (cutbox-rows.mjs): the forced cells as the released guide's own fill.sh prints them over the translation c9be57a6cf6396a9… (all of the seat's roots in one cut). By AI agents, Wed Nov 11 2026. No macro, syntax, notation, axiom, sorry.
-/
import Derived.Test.YtjkicljcmognhaaChecked
import GoSem.Claim
import GoSem.ClaimJoined
import GoSem.ClaimMapViews
import Derived.JoinedTies
import Derived.KernelRfl
namespace Go.Proofs.Ytjkicljcmognhaa
/- THE CELL 'sum', in the pinned program and in every row, IS THE sha256 OF THE DUMP (.gsa) THAT YtjkicljcmognhaaProg.lean LOADS. Nothing in Lean hashes anything: it is a label: what it is worth is what the hold of that sum in a sandbox is worth. -/
noncomputable def Try.pinned : Pinned := { name := "ytjkicljcmognhaa", sum := "c9be57a6cf6396a92b9adee00e4e1e1b7b2e0ba30a5c9b47df7e6e1129ce717d", checked := Try.checked }
namespace Rows
def none {H : Type} : Left H := { results := [], args := [] }

/-- 'mandatelaw02.InternPlays': WHATEVER THE INPUT: true; the input reads as it did. -/
def internPlaysSpec : ChangeSpec := { name := "internPlays", fn := fun _ => fun
  | [d] => { results := [.lit (.bool true)], args := [d] }
  | _ => none }
def internPlaysRow : OpenClaim := { program := "ytjkicljcmognhaa", sum := "c9be57a6cf6396a92b9adee00e4e1e1b7b2e0ba30a5c9b47df7e6e1129ce717d", func := "mandate/mandatelaw02.InternPlays", spec := "internPlays", plainKeys := false, apart := false }
def InternPlaysSaid : Prop := internPlaysRow.holds Try.pinned (OpenSpec.ofChange internPlaysSpec)

/-- ITS FALSE NEIGHBOUR: 'it returns false'. Refute it at one input. -/
def internPlaysWrong : ChangeSpec := { name := "internPlays", fn := fun _ => fun
  | [d] => { results := [.lit (.bool false)], args := [d] }
  | _ => none }
def InternPlaysWrongFalsely : Prop := internPlaysRow.holds Try.pinned (OpenSpec.ofChange internPlaysWrong)

/-- 'mandatelaw02.InternNothing': WHATEVER THE INPUT: true; the input reads as it did. -/
def internNothingSpec : ChangeSpec := { name := "internNothing", fn := fun _ => fun
  | [d] => { results := [.lit (.bool true)], args := [d] }
  | _ => none }
def internNothingRow : OpenClaim := { program := "ytjkicljcmognhaa", sum := "c9be57a6cf6396a92b9adee00e4e1e1b7b2e0ba30a5c9b47df7e6e1129ce717d", func := "mandate/mandatelaw02.InternNothing", spec := "internNothing", plainKeys := false, apart := false }
def InternNothingSaid : Prop := internNothingRow.holds Try.pinned (OpenSpec.ofChange internNothingSpec)

/-- ITS FALSE NEIGHBOUR: 'it returns false'. Refute it at one input. -/
def internNothingWrong : ChangeSpec := { name := "internNothing", fn := fun _ => fun
  | [d] => { results := [.lit (.bool false)], args := [d] }
  | _ => none }
def InternNothingWrongFalsely : Prop := internNothingRow.holds Try.pinned (OpenSpec.ofChange internNothingWrong)

/-- 'mandatelaw02.InternBack': WHATEVER THE INPUT: true; the input reads as it did. -/
def internBackSpec : ChangeSpec := { name := "internBack", fn := fun _ => fun
  | [d1, d2] => { results := [.lit (.bool true)], args := [d1, d2] }
  | _ => none }
def internBackRow : OpenClaim := { program := "ytjkicljcmognhaa", sum := "c9be57a6cf6396a92b9adee00e4e1e1b7b2e0ba30a5c9b47df7e6e1129ce717d", func := "mandate/mandatelaw02.InternBack", spec := "internBack", plainKeys := false, apart := false }
def InternBackSaid : Prop := internBackRow.holds Try.pinned (OpenSpec.ofChange internBackSpec)

/-- ITS FALSE NEIGHBOUR: 'it returns false'. Refute it at one input. -/
def internBackWrong : ChangeSpec := { name := "internBack", fn := fun _ => fun
  | [d1, d2] => { results := [.lit (.bool false)], args := [d1, d2] }
  | _ => none }
def InternBackWrongFalsely : Prop := internBackRow.holds Try.pinned (OpenSpec.ofChange internBackWrong)

/-- 'mandatelaw02.InternFull': WHATEVER THE INPUT: true; the input reads as it did. -/
def internFullSpec : ChangeSpec := { name := "internFull", fn := fun _ => fun
  | [d] => { results := [.lit (.bool true)], args := [d] }
  | _ => none }
def internFullRow : OpenClaim := { program := "ytjkicljcmognhaa", sum := "c9be57a6cf6396a92b9adee00e4e1e1b7b2e0ba30a5c9b47df7e6e1129ce717d", func := "mandate/mandatelaw02.InternFull", spec := "internFull", plainKeys := false, apart := false }
def InternFullSaid : Prop := internFullRow.holds Try.pinned (OpenSpec.ofChange internFullSpec)

/-- ITS FALSE NEIGHBOUR: 'it returns false'. Refute it at one input. -/
def internFullWrong : ChangeSpec := { name := "internFull", fn := fun _ => fun
  | [d] => { results := [.lit (.bool false)], args := [d] }
  | _ => none }
def InternFullWrongFalsely : Prop := internFullRow.holds Try.pinned (OpenSpec.ofChange internFullWrong)

/-- 'mandatelaw02.InternApart': WHATEVER THE INPUT: true; the input reads as it did. -/
def internApartSpec : ChangeSpec := { name := "internApart", fn := fun _ => fun
  | [d1, d2] => { results := [.lit (.bool true)], args := [d1, d2] }
  | _ => none }
def internApartRow : OpenClaim := { program := "ytjkicljcmognhaa", sum := "c9be57a6cf6396a92b9adee00e4e1e1b7b2e0ba30a5c9b47df7e6e1129ce717d", func := "mandate/mandatelaw02.InternApart", spec := "internApart", plainKeys := false, apart := false }
def InternApartSaid : Prop := internApartRow.holds Try.pinned (OpenSpec.ofChange internApartSpec)

/-- ITS FALSE NEIGHBOUR: 'it returns false'. Refute it at one input. -/
def internApartWrong : ChangeSpec := { name := "internApart", fn := fun _ => fun
  | [d1, d2] => { results := [.lit (.bool false)], args := [d1, d2] }
  | _ => none }
def InternApartWrongFalsely : Prop := internApartRow.holds Try.pinned (OpenSpec.ofChange internApartWrong)

/- THE SECOND FORM. 'bulk': how many values and letters a reading holds, each counted each time it is reached (what is shared counts as often as it is met; a slice's spare places count too). A statement '..UptoSaid' is the law's where the arguments, and the package variables that the reading takes, are together of bulk at most 1048576: NARROWER than '..Said'. Prove '..Said' where nothing that the law and all that it calls make is longer than what came in: it says more and counts as full. Else prove '..UptoSaid'. A law counts once. -/
mutual
def uptoBulk {H : Type} : DataW H → Nat
  | .lit (.string bytes) => bytes.length + 1
  | .lit _ => 1
  | .nil => 1
  | .ptr d => uptoBulk d + 1
  | .slice elems spare => uptoBulkAll elems + uptoBulkAll spare + 1
  | .agg parts => uptoBulkAll parts + 1
  | .iface _ d => uptoBulk d + 1
  | .map entries => uptoBulkEntries entries + 1
  | .held _ => 1
def uptoBulkAll {H : Type} : List (DataW H) → Nat
  | [] => 0
  | d :: r => uptoBulk d + uptoBulkAll r
def uptoBulkEntries {H : Type} : List (Lit × DataW H) → Nat
  | [] => 0
  | x :: r => uptoBulkEntry x + uptoBulkEntries r
def uptoBulkEntry {H : Type} : Lit × DataW H → Nat
  | (.string bytes, d) => bytes.length + uptoBulk d + 1
  | (_, d) => uptoBulk d + 1
 end
def uptoSmall : (H : Type) → List (DataW H) → Bool := fun _ ds => decide (uptoBulkAll ds ≤ 1048576)
def OpenSpec.upto (s : _root_.Go.ChangeSpec) : _root_.Go.OpenSpec := { _root_.Go.OpenSpec.ofChange s with cond := some uptoSmall }

/-- 'mandatelaw02.InternPlays', WHERE WHAT IT READS IS OF BULK AT MOST 1048576: true; the input reads as it did. -/
def internPlaysUptoRow : OpenClaim := { program := "ytjkicljcmognhaa", sum := "c9be57a6cf6396a92b9adee00e4e1e1b7b2e0ba30a5c9b47df7e6e1129ce717d", func := "mandate/mandatelaw02.InternPlays", spec := "internPlays", plainKeys := false, apart := false, narrowed := true }
def InternPlaysUptoSaid : Prop := internPlaysUptoRow.holds Try.pinned (OpenSpec.upto internPlaysSpec)

/-- 'mandatelaw02.InternNothing', WHERE WHAT IT READS IS OF BULK AT MOST 1048576: true; the input reads as it did. -/
def internNothingUptoRow : OpenClaim := { program := "ytjkicljcmognhaa", sum := "c9be57a6cf6396a92b9adee00e4e1e1b7b2e0ba30a5c9b47df7e6e1129ce717d", func := "mandate/mandatelaw02.InternNothing", spec := "internNothing", plainKeys := false, apart := false, narrowed := true }
def InternNothingUptoSaid : Prop := internNothingUptoRow.holds Try.pinned (OpenSpec.upto internNothingSpec)

/-- 'mandatelaw02.InternBack', WHERE WHAT IT READS IS OF BULK AT MOST 1048576: true; the input reads as it did. -/
def internBackUptoRow : OpenClaim := { program := "ytjkicljcmognhaa", sum := "c9be57a6cf6396a92b9adee00e4e1e1b7b2e0ba30a5c9b47df7e6e1129ce717d", func := "mandate/mandatelaw02.InternBack", spec := "internBack", plainKeys := false, apart := false, narrowed := true }
def InternBackUptoSaid : Prop := internBackUptoRow.holds Try.pinned (OpenSpec.upto internBackSpec)

/-- 'mandatelaw02.InternFull', WHERE WHAT IT READS IS OF BULK AT MOST 1048576: true; the input reads as it did. -/
def internFullUptoRow : OpenClaim := { program := "ytjkicljcmognhaa", sum := "c9be57a6cf6396a92b9adee00e4e1e1b7b2e0ba30a5c9b47df7e6e1129ce717d", func := "mandate/mandatelaw02.InternFull", spec := "internFull", plainKeys := false, apart := false, narrowed := true }
def InternFullUptoSaid : Prop := internFullUptoRow.holds Try.pinned (OpenSpec.upto internFullSpec)

/-- 'mandatelaw02.InternApart', WHERE WHAT IT READS IS OF BULK AT MOST 1048576: true; the input reads as it did. -/
def internApartUptoRow : OpenClaim := { program := "ytjkicljcmognhaa", sum := "c9be57a6cf6396a92b9adee00e4e1e1b7b2e0ba30a5c9b47df7e6e1129ce717d", func := "mandate/mandatelaw02.InternApart", spec := "internApart", plainKeys := false, apart := false, narrowed := true }
def InternApartUptoSaid : Prop := internApartUptoRow.holds Try.pinned (OpenSpec.upto internApartSpec)

end Rows
end Go.Proofs.Ytjkicljcmognhaa
