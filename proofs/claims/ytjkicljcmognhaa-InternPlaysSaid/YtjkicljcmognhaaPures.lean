/- The plain laws of putting values: numbers stay, what stands twice has one. No condition beyond those each theorem names. -/
import Derived.Test.YtjkicljcmognhaaSteps
namespace Go.Proofs.Ytjkicljcmognhaa.PInternPlays
open Go.RowKit Go.Proofs.YtjkicljcmognhaaW.PrintWords Go.Proofs.YtjkicljcmognhaaW.PrintLast Go.Proofs.YtjkicljcmognhaaW.PrintMore
set_option linter.unusedVariables false
set_option linter.unusedSimpArgs false

theorem rowVs_pre (room : Nat) (vs l : List S31) : ∃ t, rowVs room vs l = vs ++ t := by
  unfold rowVs
  split
  · exact addAll_pre l vs
  · exact ⟨[], by simp⟩
theorem addAll_in : ∀ (l vs : List S31), (∀ x ∈ l, x ∈ vs) → addAll vs l = vs
  | [], vs, _ => rfl
  | y :: r, vs, h => by
    show addAll (addOne vs y) r = vs
    rw [addOne_old (h y (by simp))]
    exact addAll_in r vs (fun x hx => h x (by simp [hx]))
theorem rowE_good {room : Nat} {vs l : List S31} (h : rowE room vs l = 0) : (∀ x ∈ l, goodV x = true) ∧ (addAll vs l).length ≤ room := by
  unfold rowE at h
  split at h
  · cases h
  · rename_i h1
    split at h
    · cases h
    · rename_i h2
      exact ⟨List.all_eq_true.1 (by simpa using h1), by omega⟩
theorem rowE_in {room : Nat} {vs l : List S31} (hg : ∀ x ∈ l, goodV x = true) (hi : ∀ x ∈ l, x ∈ vs) (hr : vs.length ≤ room) : rowE room vs l = 0 :=
  rowE_zero hg (by rw [addAll_in l vs hi]; omega)
theorem rowE_cases (room : Nat) (vs l : List S31) : rowE room vs l = 0 ∨ rowE room vs l = 1 ∨ rowE room vs l = 3 := by
  unfold rowE
  split
  · exact .inr (.inl rfl)
  · split
    · exact .inr (.inr rfl)
    · exact .inl rfl
theorem num_in {vs : List S31} {x : S31} (h : x ∈ vs) : 0 ≤ num vs x ∧ num vs x < vs.length ∧ rd_T31 vs (num vs x) = x := by
  cases hi : idx vs x with
  | none => exact absurd h (idx_none.1 hi)
  | some j =>
    obtain ⟨h1, h2⟩ := idx_some hi
    rw [num_some hi]
    exact ⟨by omega, by omega, by simp [rd_T31, h2]⟩
theorem num_inj {vs : List S31} {x y : S31} (hx : x ∈ vs) (hy : y ∈ vs) (h : num vs x = num vs y) : x = y := by
  rw [← (num_in hx).2.2, ← (num_in hy).2.2, h]
theorem nums_stay {vs t l : List S31} (hi : ∀ x ∈ l, x ∈ vs) : l.map (num (vs ++ t)) = l.map (num vs) := List.map_congr_left fun x hx => num_append (hi x hx)
theorem allIn_nums {vs l : List S31} (hi : ∀ x ∈ l, x ∈ vs) : allIn vs (l.map (num vs)) = true := by
  unfold allIn
  rw [List.all_eq_true]
  intro n hn
  obtain ⟨x, hx, rfl⟩ := List.mem_map.1 hn
  have := num_in (hi x hx)
  simpa using ⟨this.1, this.2.1⟩
theorem valsOf_nums {vs l : List S31} (hi : ∀ x ∈ l, x ∈ vs) : valsOf vs (l.map (num vs)) = l := by
  unfold valsOf
  rw [if_pos (allIn_nums hi), List.map_map]
  exact (List.map_congr_left (g := id) (fun x hx => (num_in (hi x hx)).2.2)).trans (by simp)
theorem idx_num {vs : List S31} {x : S31} (h : x ∈ vs) : (idx vs x).isSome = true := by
  cases hi : idx vs x with
  | none => exact absurd h (idx_none.1 hi)
  | some j => rfl

/-- Equal numbers, equal values, as the machine asks both. -/
theorem num_beq {vs : List S31} {x y : S31} (hx : x ∈ vs) (hy : y ∈ vs) : (num vs x == num vs y) = (x.f0.toList == y.f0.toList && (x.f1 == y.f1)) := by
  rw [bytes_beq]
  rw [Bool.eq_iff_iff]
  simp only [beq_iff_eq, Bool.and_eq_true, decide_eq_true_eq]
  constructor
  · intro h
    have := num_inj hx hy h
    subst this
    exact ⟨rfl, rfl⟩
  · rintro ⟨h1, h2⟩
    have : x = y := by cases x; cases y; simp_all
    rw [this]
theorem rd_map {l : List S31} {f : S31 → Int} {i : Nat} (h : i < l.length) : rd (l.map f) (i : Int) = f (rd_T31 l (i : Int)) := by
  simp [rd, rd_T31, h]
theorem rd_mem {l : List S31} {i : Nat} (h : i < l.length) : rd_T31 l (i : Int) ∈ l := by
  simp [rd_T31, h]

end Go.Proofs.Ytjkicljcmognhaa.PInternPlays
