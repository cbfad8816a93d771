/- InternApart answers true for every two lists of values, and leaves them as they were. No condition. -/
import Derived.Test.YtjkicljcmognhaaRows
import Derived.Test.YtjkicljcmognhaaOpens
import Derived.Test.YtjkicljcmognhaaApartW
import Derived.WalkKit
import Derived.ProofKit
import Derived.OpenShut
import Derived.ShutString
import Derived.ChangeOld
import Derived.Below
import Derived.SizedLaws
namespace Go.Proofs.Ytjkicljcmognhaa.ApartRow
open Go.ChangeShapes Go.WideShapes Go.ChangeAt Go.RowKit Go.Proofs.YtjkicljcmognhaaW.PrintWords
open Go.ChangeMaps (open_string shut_string)
open PInternPlays (S31 k31 z31)
set_option linter.unusedVariables false
theorem own : ownKnob Try.prog.godebug = none := by kernel_rfl
instance : Inhabited S31 := ⟨z31⟩
theorem cells31 : Try.prog.cellsOf 31 = 2 := by kernel_rfl
theorem cells9 : Try.prog.cellsOf 9 = 1 := by kernel_rfl
theorem cells2 : Try.prog.cellsOf 2 = 1 := by kernel_rfl
/-- A value that reads as data. -/
theorem opens31 {H : Type} {enc : TypeId × Value → H} {w : World} {sp : Nat → Bool} {held : Bool} : Open.Opens enc Try.prog w sp held k31 31 (fun x => x.f0.size + 1) :=
  Open.opens_iso (f := fun x : S31 => (x.f0, x.f1)) (g := fun p => ⟨p.1, p.2⟩) (fun _ => rfl) (Open.opens2 (d0 := Kd.string) (d1 := Kd.int .i64) (m0 := fun s => s.size) (m1 := fun _ => 1) Try.underlying31 cells31 (Open.opens_string Try.underlying9 cells9) (Open.opens_int Try.underlying2 cells2) rfl rfl)
theorem laid : laidOutB Try.prog = true := by kernel_rfl

set_option maxRecDepth 100000 in
theorem lifted (os : Os) (started : os.Started) (H : Type) (enc : TypeId × Value → H) :
    ReturnsInHanded {} Try.checked os 7 .any (Rows.internApartSpec.pre6 enc Try.prog Try.f7 Rows.internApartRow.domain false) (Rows.internApartSpec.post enc Try.prog Try.f7 false true false false) := by
  refine returnsInHanded_of_change_sized (C := Try.checked) own started (by kernel_rfl) Try.func7
    (ChangeSpec.witness6 (enc := enc) (C := Try.checked) false ⟨#[], #[.slice none 0 0, .slice none 0 0], []⟩ 8 (by kernel_rfl) (by kernel_rfl) (by kernel_rfl) (by kernel_rfl)) ?_
  intro W base args ds gs before hval0 hW hcnd hsz0 _
  have hval : ∀ (j : Nat) t v, Try.f7.params[j]? = some t → args[j]? = some v → Value.okWide Try.prog W .any base t v := hval0
  have hW' := hW
  obtain ⟨p, q, hA0, hV, rfl, hfz, hnd⟩ := hW
  have hA : DataW.TrodAll enc Try.prog W 0 (fun _ => true) true Try.f7.params.toList args.toList ds p := hA0
  rw [Try.params7] at hA hval
  obtain ⟨v0, v1, d0, d1, p0, p1, rfl, rfl, rfl, h0, h1⟩ := trodAll_two hA
  obtain ⟨rfl, rfl⟩ := trodVars_none hV
  obtain ⟨a0, n0, c0, rfl⟩ := okWide_slice Try.underlying26 (hval 0 26 _ rfl rfl)
  obtain ⟨a1, n1, c1, rfl⟩ := okWide_slice Try.underlying26 (hval 1 26 _ rfl rfl)
  have h0k := h0
  have h1k := h1
  obtain ⟨m0, hm0⟩ := h0
  obtain ⟨m1, hm1⟩ := h1
  obtain ⟨A, c, l, e0, hc, hC, _, _⟩ := Open.opens_row Try.underlying26 opens31 hm0
  obtain ⟨A', c', more, e1, hc', hC', _, _⟩ := Open.opens_row Try.underlying26 opens31 hm1
  simp only [Value.cells, List.cons.injEq, Value.slice.injEq, and_true] at e0 e1
  obtain ⟨rfl, rfl, rfl⟩ := e0
  obtain ⟨rfl, rfl, rfl⟩ := e1
  clear hm0 hm1 hA0 hval0 hsz0 hA
  refine (PInternPlays.Apart_calls W a0 c0 l hC hc (Kd.C_max hC) a1 c1 more hC' hc' (Kd.C_max hC')).mono fun e W' ⟨he, bel⟩ => ?_
  subst he
  have lt0 : ∀ x ∈ p0, x.block < W.heap.size := fun x hx => by simpa using hW'.lt x (by simp [hx])
  have lt1 : ∀ x ∈ p1, x.block < W.heap.size := fun x hx => by simpa using hW'.lt x (by simp [hx])
  exact ⟨_, rfl, _, _, _, [], p0 ++ p1, [], hW', trodAll_mk1 (shut_bool Try.underlying4 _), trodAll_mk2 (Below.trod laid (by kernel_rfl) (of_decide_eq_true (by kernel_rfl)) h0k bel lt0) (Below.trod laid (by kernel_rfl) (of_decide_eq_true (by kernel_rfl)) h1k bel lt1), rfl, bel.frame _, fun h => by cases h⟩
theorem over : Rows.internApartRow.holds Try.pinned (OpenSpec.ofChange Rows.internApartSpec) :=
  OpenClaim.holds_of_wide 7 Try.f7 rfl rfl rfl rfl rfl rfl rfl ⟨rfl, rfl, rfl, rfl, rfl⟩ rfl rfl rfl rfl rfl (by kernel_rfl) Try.func7 (by kernel_rfl)
    (of_decide_eq_true (by kernel_rfl)) (by unfold Func.isWrapper; first | (rw [if_pos (by decide +kernel)]; kernel_rfl) | (rw [if_neg (by decide +kernel)]; exact ⟨rfl, rfl⟩))
    (fun os started H enc _ => lifted os started H enc)
theorem proved : Rows.InternApartSaid := over
#print axioms proved
end Go.Proofs.Ytjkicljcmognhaa.ApartRow
namespace Go.Proofs.Ytjkicljcmognhaa
/-- The row, under a short name, for the claim. -/
theorem internApart_holds : Rows.InternApartSaid := ApartRow.proved
end Go.Proofs.Ytjkicljcmognhaa
