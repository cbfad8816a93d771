/- What a rule that reads as data is in memory, and how large it can be. No condition beyond those each theorem names. -/
import Derived.Test.YtngamodmbgjajaaRows
import Derived.Test.YtngamodmbgjajaaOpens
import Derived.Test.YtngamodmbgjajaaPlanX
namespace Go.Proofs.Ytngamodmbgjajaa.RuleIn
open Go.ChangeShapes Go.WideShapes Go.ChangeAt Go.RowKit Go.Proofs.YtngamodmbgjajaaW.PrintWords
open PPlanOrders (S48 k48 z48 S50 k50 z50 S24 k24 z24 rd_T24 Small)
set_option linter.unusedVariables false
instance : Inhabited S50 := ⟨z50⟩
instance : Inhabited S24 := ⟨z24⟩
theorem cells27 : Try.prog.cellsOf 27 = 4 := by kernel_rfl
theorem cells24 : Try.prog.cellsOf 24 = 3 := by kernel_rfl
theorem cells25 : Try.prog.cellsOf 25 = 1 := by kernel_rfl
theorem cells22 : Try.prog.cellsOf 22 = 1 := by kernel_rfl
theorem cells50 : Try.prog.cellsOf 50 = 3 := by kernel_rfl
theorem cells48 : Try.prog.cellsOf 48 = 2 := by kernel_rfl
theorem cells9 : Try.prog.cellsOf 9 = 1 := by kernel_rfl
theorem cells5 : Try.prog.cellsOf 5 = 1 := by kernel_rfl
theorem cells3 : Try.prog.cellsOf 3 = 1 := by kernel_rfl
theorem cells2 : Try.prog.cellsOf 2 = 1 := by kernel_rfl
def m48 : S48 → Nat := fun x => x.f0.size + 1
def m50 : S50 → Nat := fun x => x.f0.size + m48 x.f1
def m24 : S24 → Nat := fun x => 1 + (x.f1.size + Open.many m50 x.f2)
section
variable {H : Type} {enc : TypeId × Value → H} {w : World} {sp : Nat → Bool} {held : Bool}
theorem opens48 : Open.Opens enc Try.prog w sp held k48 48 m48 :=
  Open.opens_iso (f := fun x : S48 => (x.f0, x.f1)) (g := fun p => ⟨p.1, p.2⟩) (fun _ => rfl) (Open.opens2 (d0 := Kd.string) (d1 := Kd.int .i64) (m0 := fun s => s.size) (m1 := fun _ => 1) Try.underlying48 cells48 (Open.opens_string Try.underlying9 cells9) (Open.opens_int Try.underlying2 cells2) rfl rfl)
theorem opens50 : Open.Opens enc Try.prog w sp held k50 50 m50 :=
  Open.opens_iso (f := fun x : S50 => (x.f0, x.f1)) (g := fun p => ⟨p.1, p.2⟩) (fun _ => rfl) (Open.opens2 (d0 := Kd.string) (d1 := k48) (m0 := fun s => s.size) (m1 := m48) Try.underlying50 cells50 (Open.opens_string Try.underlying9 cells9) opens48 rfl rfl)
theorem opens24 : Open.Opens enc Try.prog w sp held k24 24 m24 :=
  Open.opens_iso (f := fun x : S24 => (x.f0, x.f1, x.f2)) (g := fun p => ⟨p.1, p.2.1, p.2.2⟩) (fun _ => rfl) (Open.opens3 (d0 := Kd.int .u8) (d1 := Kd.string) (d2 := Kd.slice 50 k50) (m0 := fun _ => 1) (m1 := fun s => s.size) (m2 := Open.many m50) Try.underlying24 cells24 (Open.opens_int Try.underlying5 cells5) (Open.opens_string Try.underlying9 cells9) (Open.opens_slice Try.underlying22 cells22 opens50) rfl rfl rfl)
theorem opens27 : Open.Opens enc Try.prog w sp held (Kd.pair k24 (Kd.slice 24 k24)) 27 (fun x => m24 x.1 + Open.many m24 x.2) :=
  Open.opens2 (d0 := k24) (d1 := Kd.slice 24 k24) (m0 := m24) (m1 := Open.many m24) Try.underlying27 cells27 opens24 (Open.opens_slice Try.underlying25 cells25 opens24) rfl rfl
theorem rule_in {cs : Array Value} {m0 : Nat} {x : DataW H × List MemPlace} (h : DataW.trod enc Try.prog w 0 sp held m0 27 cs.toList = some x) (hb : Rows.uptoBulk x.1 ≤ 1048576) :
    ∃ (a : Int) (b : ByteArray) (A2 : Option Addr) (c2 : Nat) (hd_ : List S50) (A3 : Option Addr) (c3 : Nat) (body : List S24), cs = #[.int .u8 a, .string b, .slice A2 hd_.length c2, .slice A3 body.length c3] ∧ Kd.C k50 w A2 hd_.length hd_ ∧ hd_.length ≤ c2 ∧ hd_.length ≤ 1048576 ∧ Kd.C k24 w A3 body.length body ∧ body.length ≤ c3 ∧ body.length ≤ 1048576 ∧ (body.length ≤ 30 → Small body) := by
  obtain ⟨⟨y, body⟩, hy, hbulk⟩ := opens27.2 _ _ _ h
  obtain ⟨c1, c2, e1, h1, h2⟩ := hy
  obtain ⟨A2, n2, e2, hl2, hC2⟩ := PPlanOrders.k24_open h1
  obtain ⟨A3, n3, e3, hl3, hC3⟩ := h2
  have hbk : m24 y + Open.many m24 body ≤ 1048576 := Nat.le_trans hbulk hb
  have hm1 := Open.many_length m50 y.f2
  have hm2 := Open.many_length m24 body
  have hm3 : 1 + (y.f1.size + Open.many m50 y.f2) = m24 y := rfl
  have hlb : body.length ≤ 1048576 := by omega
  refine ⟨y.f0, y.f1, A2, n2, y.f2, A3, n3, body, ?_, hC2, hl2, by omega, hC3, hl3, hlb, fun h30 => ⟨h30, fun k k0 k1 => ?_⟩⟩
  · rw [e2, e3] at e1
    exact Array.toList_inj.1 e1
  · have hk : k.toNat < body.length := by omega
    have hr : rd_T24 body k = body[k.toNat] := by simp [rd_T24, hk]
    have hmem : body[k.toNat] ∈ body := List.getElem_mem hk
    have h4 := Open.many_mem m24 hmem
    have h5 := Open.many_length m50 body[k.toNat].f2
    have h6 : 1 + (body[k.toNat].f1.size + Open.many m50 body[k.toNat].f2) = m24 body[k.toNat] := rfl
    rw [hr]
    omega
end
end Go.Proofs.Ytngamodmbgjajaa.RuleIn
