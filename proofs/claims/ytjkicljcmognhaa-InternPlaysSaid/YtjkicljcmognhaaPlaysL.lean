/- InternPlays answers true for every list of calls, and leaves it as it was. No condition. -/
import Derived.Test.YtjkicljcmognhaaRows
import Derived.Test.YtjkicljcmognhaaOpens
import Derived.Test.YtjkicljcmognhaaPlaysW
import Derived.WalkKit
import Derived.ProofKit
import Derived.OpenShut
import Derived.ShutString
import Derived.ChangeOld
import Derived.Below
import Derived.SizedLaws
namespace Go.Proofs.Ytjkicljcmognhaa.PlaysRow
open Go.ChangeShapes Go.WideShapes Go.ChangeAt Go.RowKit Go.Proofs.YtjkicljcmognhaaW.PrintWords
open Go.ChangeMaps (open_string shut_string)
open PInternPlays (S31 k31 z31 S29 k29 z29)
set_option linter.unusedVariables false
theorem own : ownKnob Try.prog.godebug = none := by kernel_rfl
instance : Inhabited S31 := ⟨z31⟩
instance : Inhabited S29 := ⟨z29⟩
theorem cells31 : Try.prog.cellsOf 31 = 2 := by kernel_rfl
theorem cells29 : Try.prog.cellsOf 29 = 4 := by kernel_rfl
theorem cells26 : Try.prog.cellsOf 26 = 1 := by kernel_rfl
theorem cells27 : Try.prog.cellsOf 27 = 1 := by kernel_rfl
theorem cells9 : Try.prog.cellsOf 9 = 1 := by kernel_rfl
theorem cells3 : Try.prog.cellsOf 3 = 1 := by kernel_rfl
theorem cells2 : Try.prog.cellsOf 2 = 1 := by kernel_rfl
/-- A value that reads as data. -/
theorem opens31 {H : Type} {enc : TypeId × Value → H} {w : World} {sp : Nat → Bool} {held : Bool} : Open.Opens enc Try.prog w sp held k31 31 (fun x => x.f0.size + 1) :=
  Open.opens_iso (f := fun x : S31 => (x.f0, x.f1)) (g := fun p => ⟨p.1, p.2⟩) (fun _ => rfl) (Open.opens2 (d0 := Kd.string) (d1 := Kd.int .i64) (m0 := fun s => s.size) (m1 := fun _ => 1) Try.underlying31 cells31 (Open.opens_string Try.underlying9 cells9) (Open.opens_int Try.underlying2 cells2) rfl rfl)
/-- A call that reads as data. -/
theorem opens29 {H : Type} {enc : TypeId × Value → H} {w : World} {sp : Nat → Bool} {held : Bool} : Open.Opens enc Try.prog w sp held k29 29 (fun x => 1 + (1 + (Open.many (fun x : S31 => x.f0.size + 1) x.f2 + Open.many (fun _ => 1) x.f3))) :=
  Open.opens_iso (f := fun x : S29 => (x.f0, x.f1, x.f2, x.f3)) (g := fun p => ⟨p.1, p.2.1, p.2.2.1, p.2.2.2⟩) (fun _ => rfl) (Open.opens4 (d0 := Kd.int .i64) (d1 := Kd.int .i64) (d2 := Kd.slice 31 k31) (d3 := Kd.slice 3 (Kd.int .i64)) (m0 := fun _ => 1) (m1 := fun _ => 1) (m2 := Open.many (fun x : S31 => x.f0.size + 1)) (m3 := Open.many (fun _ => 1)) Try.underlying29 cells29 (Open.opens_int Try.underlying3 cells3) (Open.opens_int Try.underlying3 cells3) (Open.opens_slice Try.underlying26 cells26 opens31) (Open.opens_slice Try.underlying27 cells27 (Open.opens_int Try.underlying3 cells3)) rfl rfl rfl rfl)
theorem laid : laidOutB Try.prog = true := by kernel_rfl

set_option maxRecDepth 100000 in
theorem lifted (os : Os) (started : os.Started) (H : Type) (enc : TypeId × Value → H) :
    ReturnsInHanded {} Try.checked os 3 .any (Rows.internPlaysSpec.pre6 enc Try.prog Try.f3 Rows.internPlaysRow.domain false) (Rows.internPlaysSpec.post enc Try.prog Try.f3 false true false false) := by
  refine returnsInHanded_of_change_sized (C := Try.checked) own started (by kernel_rfl) Try.func3
    (ChangeSpec.witness6 (enc := enc) (C := Try.checked) false ⟨#[], #[.slice none 0 0], []⟩ 8 (by kernel_rfl) (by kernel_rfl) (by kernel_rfl) (by kernel_rfl)) ?_
  intro W base args ds gs before hval0 hW hcnd hsz0 _
  have hval : ∀ (j : Nat) t v, Try.f3.params[j]? = some t → args[j]? = some v → Value.okWide Try.prog W .any base t v := hval0
  have hW' := hW
  obtain ⟨p, q, hA0, hV, rfl, hfz, hnd⟩ := hW
  have hA : DataW.TrodAll enc Try.prog W 0 (fun _ => true) true Try.f3.params.toList args.toList ds p := hA0
  rw [Try.params3] at hA hval
  obtain ⟨v0, vs0, d0, ds0, p0, q0, hargs, rfl, rfl, h0, r0⟩ := trodAll_cons hA
  obtain ⟨rfl, rfl, rfl⟩ := trodAll_nil r0
  obtain rfl : args = #[v0] := by cases args; simp_all
  obtain ⟨rfl, rfl⟩ := trodVars_none hV
  obtain ⟨a0, n0, c0, rfl⟩ := okWide_slice Try.underlying22 (hval 0 22 _ rfl rfl)
  have h0k := h0
  obtain ⟨m0, hm0⟩ := h0
  obtain ⟨A, c, l, e0, hc, hC, _, _⟩ := Open.opens_row Try.underlying22 opens29 hm0
  simp only [Value.cells, List.cons.injEq, Value.slice.injEq, and_true] at e0
  obtain ⟨rfl, rfl, rfl⟩ := e0
  clear hm0 hA0 hval0 hsz0 hA
  refine (PInternPlays.Plays_calls W a0 c0 l hC hc).mono fun e W' ⟨he, bel⟩ => ?_
  subst he
  have lt0 : ∀ x ∈ p0, x.block < W.heap.size := fun x hx => by simpa using hW'.lt x (by simp [hx])
  exact ⟨_, rfl, _, _, _, [], p0, [], hW', trodAll_mk1 (shut_bool Try.underlying4 _), trodAll_mk1 (Below.trod laid (by kernel_rfl) (of_decide_eq_true (by kernel_rfl)) h0k bel lt0), rfl, bel.frame _, fun h => by cases h⟩
theorem over : Rows.internPlaysRow.holds Try.pinned (OpenSpec.ofChange Rows.internPlaysSpec) :=
  OpenClaim.holds_of_wide 3 Try.f3 rfl rfl rfl rfl rfl rfl rfl ⟨rfl, rfl, rfl, rfl, rfl⟩ rfl rfl rfl rfl rfl (by kernel_rfl) Try.func3 (by kernel_rfl)
    (of_decide_eq_true (by kernel_rfl)) (by unfold Func.isWrapper; first | (rw [if_pos (by decide +kernel)]; kernel_rfl) | (rw [if_neg (by decide +kernel)]; exact ⟨rfl, rfl⟩))
    (fun os started H enc _ => lifted os started H enc)
theorem proved : Rows.InternPlaysSaid := over
#print axioms proved
end Go.Proofs.Ytjkicljcmognhaa.PlaysRow
namespace Go.Proofs.Ytjkicljcmognhaa
/-- The row, under a short name, for the claim. -/
theorem internPlays_holds : Rows.InternPlaysSaid := PlaysRow.proved
end Go.Proofs.Ytjkicljcmognhaa
