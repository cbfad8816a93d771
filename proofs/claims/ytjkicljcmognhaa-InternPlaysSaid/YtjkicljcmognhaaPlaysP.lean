/- What the reference's Find and Row answer, in plain lists. No condition beyond those each theorem names. -/
import Derived.Test.YtjkicljcmognhaaPures
namespace Go.Proofs.Ytjkicljcmognhaa.PInternPlays
open Go.RowKit Go.Proofs.YtjkicljcmognhaaW.PrintWords Go.Proofs.YtjkicljcmognhaaW.PrintLast Go.Proofs.YtjkicljcmognhaaW.PrintMore
set_option linter.unusedVariables false
set_option linter.unusedSimpArgs false

/-- A value's number; -1: none. -/
def fnd (l : List S31) (v : S31) : Int := match idx l v with | some j => (j : Int) | none => -1
theorem s31_beq (a v : S31) : ((a.f0.toList == v.f0.toList && (a.f1 == v.f1)) = true) ↔ a = v := by
  rw [bytes_beq]
  simp only [Bool.and_eq_true, beq_iff_eq, decide_eq_true_eq]
  constructor
  · rintro ⟨h1, h2⟩; cases a; cases v; simp_all
  · rintro rfl; exact ⟨rfl, rfl⟩
theorem idx_drop {l : List S31} {v : S31} {i : Nat} (h : ∀ j, j < i → l[j]? ≠ some v) : idx l v = (idx (l.drop i) v).map (· + i) := by
  induction i generalizing l with
  | zero => simp
  | succ i ih =>
    cases l with
    | nil => simp [idx]
    | cons y r =>
      have hy : v ≠ y := fun e => h 0 (by omega) (by simp [e])
      rw [idx, if_neg hy, ih (l := r) (fun j hj => by have := h (j + 1) (by omega); simpa using this)]
      simp [Option.map_map, Function.comp_def, Nat.add_assoc, Nat.add_comm, Nat.add_left_comm]
theorem fnd_none {l : List S31} {v : S31} (h : v ∉ l) : fnd l v = -1 := by unfold fnd; rw [idx_none.2 h]
theorem fnd_in {l : List S31} {v : S31} (h : v ∈ l) : fnd l v = num l v ∧ 0 ≤ fnd l v := by
  cases hi : idx l v with
  | none => exact absurd h (idx_none.1 hi)
  | some j => unfold fnd num; rw [hi]; exact ⟨rfl, by simp⟩

theorem good_add (x : S31) : ∀ d : Nat, mandateref01_Good.f (20 + d) x.f0 x.f1 = some (goodV x)
  | 0 => ref_good x
  | d + 1 => mandateref01_Good.mono _ _ _ _ (good_add x d)
theorem good_mono {k : Nat} (hk : 20 ≤ k) (x : S31) : mandateref01_Good.f k x.f0 x.f1 = some (goodV x) := by
  obtain ⟨d, rfl⟩ : ∃ d, k = 20 + d := ⟨k - 20, by omega⟩
  exact good_add x d

/-- The reference's Row: the list behind it, the numbers, the error. -/
def rowF (vs l : List S31) : List S31 × List Int × Int := (rowVs 4096 vs l, rowNs 4096 vs l, rowE 4096 vs l)

end Go.Proofs.Ytjkicljcmognhaa.PInternPlays
