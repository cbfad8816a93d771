/- InternNothing answers true for every argument whose bulk is at most the second form's bound, and leaves it as it was. Condition: the bulk. -/
import Derived.Test.YtjkicljcmognhaaRows
import Derived.Test.YtjkicljcmognhaaOpens
import Derived.Test.YtjkicljcmognhaaNilW
import Derived.WalkKit
import Derived.ProofKit
import Derived.OpenShut
import Derived.ShutString
import Derived.ChangeOld
import Derived.Below
import Derived.JoinedCond
namespace Go.Proofs.Ytjkicljcmognhaa.NilRow
open Go.ChangeShapes Go.WideShapes Go.ChangeAt Go.RowKit Go.Proofs.YtjkicljcmognhaaW.PrintWords
open Go.ChangeMaps (open_string shut_string)
open PInternPlays (S31 k31 z31)
set_option linter.unusedVariables false
theorem own : ownKnob Try.prog.godebug = none := by kernel_rfl
instance : Inhabited S31 := ⟨z31⟩
theorem cells51 : Try.prog.cellsOf 51 = 5 := by kernel_rfl
theorem cells31 : Try.prog.cellsOf 31 = 2 := by kernel_rfl
theorem cells26 : Try.prog.cellsOf 26 = 1 := by kernel_rfl
theorem cells27 : Try.prog.cellsOf 27 = 1 := by kernel_rfl
theorem cells9 : Try.prog.cellsOf 9 = 1 := by kernel_rfl
theorem cells3 : Try.prog.cellsOf 3 = 1 := by kernel_rfl
theorem cells2 : Try.prog.cellsOf 2 = 1 := by kernel_rfl
/-- A value that reads as data. -/
theorem opens31 {H : Type} {enc : TypeId × Value → H} {w : World} {sp : Nat → Bool} {held : Bool} : Open.Opens enc Try.prog w sp held k31 31 (fun x => x.f0.size + 1) :=
  Open.opens_iso (f := fun x : S31 => (x.f0, x.f1)) (g := fun p => ⟨p.1, p.2⟩) (fun _ => rfl) (Open.opens2 (d0 := Kd.string) (d1 := Kd.int .i64) (m0 := fun s => s.size) (m1 := fun _ => 1) Try.underlying31 cells31 (Open.opens_string Try.underlying9 cells9) (Open.opens_int Try.underlying2 cells2) rfl rfl)
theorem opens51 {H : Type} {enc : TypeId × Value → H} {w : World} {sp : Nat → Bool} {held : Bool} : Open.Opens enc Try.prog w sp held (Kd.pair k31 (Kd.pair (Kd.int .i64) (Kd.pair (Kd.slice 31 k31) (Kd.slice 3 (Kd.int .i64))))) 51 (fun x => (x.1.f0.size + 1) + (1 + (Open.many (fun x : S31 => x.f0.size + 1) x.2.2.1 + Open.many (fun _ => 1) x.2.2.2))) :=
  Open.opens4 (d0 := k31) (d1 := Kd.int .i64) (d2 := Kd.slice 31 k31) (d3 := Kd.slice 3 (Kd.int .i64)) (m0 := fun x => x.f0.size + 1) (m1 := fun _ => 1) (m2 := Open.many (fun x : S31 => x.f0.size + 1)) (m3 := Open.many (fun _ => 1)) Try.underlying51 cells51 opens31 (Open.opens_int Try.underlying3 cells3) (Open.opens_slice Try.underlying26 cells26 opens31) (Open.opens_slice Try.underlying27 cells27 (Open.opens_int Try.underlying3 cells3)) rfl rfl rfl rfl
theorem laid : laidOutB Try.prog = true := by kernel_rfl

set_option maxRecDepth 100000 in
theorem contract (H : Type) (enc : TypeId × Value → H) (W : World) (base : Nat) (args : Array Value) (ds gs : List (DataW H)) (before : List MemPlace)
    (hval0 : ∀ (j : Nat) t v, Try.f4.params[j]? = some t → args[j]? = some v → Value.okWide Try.prog W .any base t v)
    (hW : DataW.Whole enc Try.prog Try.f4.params.toList Rows.internNothingSpec.vars false W args.toList ds gs before) (hk : Rows.uptoSmall H (ds ++ gs) = true) :
    Calls Try.prog 4 args W fun e W' => ∃ v, e = .returned v ∧ Rows.internNothingSpec.post enc Try.prog Try.f4 false true false false W args v W' := by
  have hval : ∀ (j : Nat) t v, Try.f4.params[j]? = some t → args[j]? = some v → Value.okWide Try.prog W .any base t v := hval0
  have hW' := hW
  obtain ⟨p, q, hA0, hV, rfl, hfz, hnd⟩ := hW
  have hA : DataW.TrodAll enc Try.prog W 0 (fun _ => true) true Try.f4.params.toList args.toList ds p := hA0
  rw [Try.params4] at hA hval
  obtain ⟨v0, vs0, d0, ds0, p0, q0, hargs, rfl, rfl, h0, r0⟩ := trodAll_cons hA
  obtain ⟨rfl, rfl, rfl⟩ := trodAll_nil r0
  obtain rfl : args = #[v0] := by cases args; simp_all
  obtain ⟨rfl, rfl⟩ := trodVars_none hV
  obtain ⟨cs, rfl, hsz⟩ := okWide_struct Try.underlying51 (hval 0 51 _ rfl rfl)
  have h0k := h0
  obtain ⟨m0, hm0⟩ := h0
  obtain ⟨y, hy, hbulk⟩ := opens51.2 _ _ _ hm0
  obtain ⟨x, n, l, ns⟩ := y
  obtain ⟨a, b, e1, ⟨b1, b2, e2, hb1, hb2⟩, c1, c2, e3, hc1, d1, d2, e4, ⟨A, c, hd1, hlc, hl⟩, A', c', hd2, hlc', hl'⟩ := hy
  have hb1' : b1 = [.string x.f0] := hb1
  have hb2' : b2 = [.int .i64 x.f1] := hb2
  have hc1' : c1 = [.int .i64 n] := hc1
  have hd1' : d1 = [.slice A l.length c] := hd1
  have hd2' : d2 = [.slice A' ns.length c'] := hd2
  have hl1 : k31.C W A l.length l := hl
  have hl2 : (Kd.int .i64).C W A' ns.length ns := hl'
  have hlc1 : l.length ≤ c := hlc
  have hlc2 : ns.length ≤ c' := hlc'
  have hcs : cs = #[.string x.f0, .int .i64 x.f1, .int .i64 n, .slice A l.length c, .slice A' ns.length c'] := by
    have h1 : cs.toList = a ++ b := e1
    rw [e2, e3, e4, hb1', hb2', hc1', hd1', hd2'] at h1
    exact Array.toList_inj.1 h1
  subst hcs
  have hbd : Rows.uptoBulkAll [d0] ≤ 1048576 := of_decide_eq_true hk
  have hbk : x.f0.size + 1 + (1 + (Open.many (fun x : S31 => x.f0.size + 1) l + Open.many (fun _ => 1) ns)) ≤ Rows.uptoBulk d0 := hbulk
  have hm1 := Open.many_length (fun x : S31 => x.f0.size + 1) l
  have hm2 := Open.many_length (fun _ : Int => 1) ns
  have hbe : Rows.uptoBulkAll [d0] = Rows.uptoBulk d0 := by simp only [Rows.uptoBulkAll]; omega
  clear hb1 hb2 hc1 hd1 hd2 hl hl' hlc hlc' e1 e2 e3 e4 hm0 hA0 hval0 hA hk hbulk
  refine (PInternPlays.Nothing_calls W x n A c l hl1 hlc1 A' c' ns hl2 hlc2 (by omega) (by omega)).mono fun e W' ⟨he, bel⟩ => ?_
  subst he

  have lt0 : ∀ x ∈ p0, x.block < W.heap.size := fun x hx => by simpa using hW'.lt x (by simp [hx])
  exact ⟨_, rfl, _, _, _, [], p0, [], hW', trodAll_mk1 (shut_bool Try.underlying4 _), trodAll_mk1 (Below.trod laid (by kernel_rfl) (of_decide_eq_true (by kernel_rfl)) h0k bel lt0), rfl, bel.frame _, fun h => by cases h⟩

set_option maxRecDepth 100000 in
theorem lifted (os : Os) (started : os.Started) (H : Type) (enc : TypeId × Value → H) (F : Stop.Interp) :
    ReturnsInHanded {} Try.checked os 4 .any ((Rows.OpenSpec.upto Rows.internNothingSpec).pre6 enc Try.prog Try.f4 Rows.internNothingUptoRow.domain false) (((Rows.OpenSpec.upto Rows.internNothingSpec).at F).post enc Try.prog Try.f4 false true false false) := by
  refine returnsInHanded_of_cond (C := Try.checked) (s := Rows.OpenSpec.upto Rows.internNothingSpec) (k := Rows.uptoSmall) rfl own started (by kernel_rfl) Try.func4
    (OpenSpec.witness (enc := enc) (C := Try.checked) (s := Rows.OpenSpec.upto Rows.internNothingSpec) (k := Rows.uptoSmall) rfl false ⟨#[], #[.agg #[.string .empty, .int .i64 0, .int .i64 0, .slice none 0 0, .slice none 0 0]], []⟩ 8 (by kernel_rfl) (by kernel_rfl) (by kernel_rfl)
      (x := ([.agg [.agg [.lit (.string []), .lit (.int .i64 0)], .lit (.int .i64 0), .nil, .nil]], [], [])) (by kernel_rfl) rfl (by kernel_rfl)) ?_
  intro W base args ds gs before hval hW _ hk _
  exact contract H enc W base args ds gs before hval hW hk

theorem proved : Rows.InternNothingUptoSaid :=
  OpenClaim.holds_of_cond 4 Try.f4 rfl rfl rfl rfl rfl rfl rfl ⟨rfl, rfl, rfl, rfl, rfl⟩ rfl rfl rfl rfl rfl (by kernel_rfl) Try.func4 (by kernel_rfl)
    (of_decide_eq_true (by kernel_rfl)) (by unfold Func.isWrapper; first | (rw [if_pos (by decide +kernel)]; kernel_rfl) | (rw [if_neg (by decide +kernel)]; exact ⟨rfl, rfl⟩))
    (fun os started H enc _ F => lifted os started H enc F)
#print axioms proved
end Go.Proofs.Ytjkicljcmognhaa.NilRow
namespace Go.Proofs.Ytjkicljcmognhaa
/-- The row, under a short name, for the claim. -/
theorem internNothing_holds : Rows.InternNothingUptoSaid := NilRow.proved
end Go.Proofs.Ytjkicljcmognhaa
