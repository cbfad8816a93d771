/- What the reference's Find and Row compute. No condition beyond those each theorem names. -/
import Derived.Test.YtjkicljcmognhaaPures
import Derived.Test.YtjkicljcmognhaaLeafB
namespace Go.Proofs.Ytjkicljcmognhaa.PInternPlays
open Go.RowKit Go.Proofs.YtjkicljcmognhaaW.PrintWords Go.Proofs.YtjkicljcmognhaaW.PrintLast Go.Proofs.YtjkicljcmognhaaW.PrintMore
set_option linter.unusedVariables false
set_option linter.unusedSimpArgs false

/-- A value's number; -1: none. -/
def fnd (l : List S31) (v : S31) : Int := match idx l v with | some j => (j : Int) | none => -1
theorem s31_beq (a v : S31) : ((a.f0.toList == v.f0.toList && (a.f1 == v.f1)) = true) ↔ a = v := by
  rw [bytes_beq]
  simp only [Bool.and_eq_true, beq_iff_eq, decide_eq_true_eq]
  constructor
  · rintro ⟨h1, h2⟩; cases a; cases v; simp_all
  · rintro rfl; exact ⟨rfl, rfl⟩
theorem idx_drop {l : List S31} {v : S31} {i : Nat} (h : ∀ j, j < i → l[j]? ≠ some v) : idx l v = (idx (l.drop i) v).map (· + i) := by
  induction i generalizing l with
  | zero => simp
  | succ i ih =>
    cases l with
    | nil => simp [idx]
    | cons y r =>
      have hy : v ≠ y := fun e => h 0 (by omega) (by simp [e])
      rw [idx, if_neg hy, ih (l := r) (fun j hj => by have := h (j + 1) (by omega); simpa using this)]
      simp [Option.map_map, Function.comp_def, Nat.add_assoc, Nat.add_comm, Nat.add_left_comm]
theorem find_l0 (l : List S31) (v : S31) (hl : l.length ≤ 1000000) (d : Nat) : ∀ (k i : Nat), l.length - i = d → i ≤ l.length → d < k → (∀ j, j < i → l[j]? ≠ some v) → mandateref02_Find.l0 k l (i : Int) v.f0 v.f1 = some (fnd l v) := by
  induction d with
  | zero =>
    intro k i hd hi hk hn
    obtain ⟨k, rfl⟩ : ∃ m, k = m + 1 := ⟨k - 1, by omega⟩
    simp only [mandateref02_Find.l0]
    rw [if_neg (by omega)]
    have : idx l v = none := by rw [idx_drop hn, List.drop_of_length_le (by omega)]; rfl
    unfold fnd
    rw [this]
  | succ d ih =>
    intro k i hd hi hk hn
    obtain ⟨k, rfl⟩ : ∃ m, k = m + 1 := ⟨k - 1, by omega⟩
    simp only [mandateref02_Find.l0]
    rw [if_pos (by omega), if_pos (by omega)]
    have hlt : i < l.length := by omega
    have hr : rd_T31 l (i : Int) = l[i] := by simp [rd_T31, hlt]
    by_cases he : l[i] = v
    · rw [if_pos (by rw [hr]; exact (s31_beq _ _).2 he)]
      have : idx l v = some i := by
        rw [idx_drop hn, List.drop_eq_getElem_cons hlt, idx, if_pos he.symm]
        simp
      unfold fnd
      rw [this]
    · rw [if_neg (by rw [hr]; exact fun h => he ((s31_beq _ _).1 h)), wrap_one (by omega) (by omega)]
      refine ih k (i + 1) (by omega) (by omega) (by omega) (fun j hj => ?_)
      by_cases hji : j < i
      · exact hn j hji
      · obtain rfl : j = i := by omega
        rw [List.getElem?_eq_getElem hlt]
        simpa using he
theorem find_f (l : List S31) (v : S31) (hl : l.length ≤ 1000000) {k : Nat} (hk : l.length < k) : mandateref02_Find.f k l v.f0 v.f1 = some (fnd l v) := by
  unfold mandateref02_Find.f
  exact find_l0 l v hl l.length k 0 (by omega) (by omega) hk (fun j hj => by omega)
theorem fnd_none {l : List S31} {v : S31} (h : v ∉ l) : fnd l v = -1 := by unfold fnd; rw [idx_none.2 h]
theorem fnd_in {l : List S31} {v : S31} (h : v ∈ l) : fnd l v = num l v ∧ 0 ≤ fnd l v := by
  cases hi : idx l v with
  | none => exact absurd h (idx_none.1 hi)
  | some j => unfold fnd num; rw [hi]; exact ⟨rfl, by simp⟩

theorem good_add (x : S31) : ∀ d : Nat, mandateref01_Good.f (20 + d) x.f0 x.f1 = some (goodV x)
  | 0 => ref_good x
  | d + 1 => mandateref01_Good.mono _ _ _ _ (good_add x d)
theorem good_mono {k : Nat} (hk : 20 ≤ k) (x : S31) : mandateref01_Good.f k x.f0 x.f1 = some (goodV x) := by
  obtain ⟨d, rfl⟩ : ∃ d, k = 20 + d := ⟨k - 20, by omega⟩
  exact good_add x d

theorem row_l1 (vs l : List S31) (hv : vs.length ≤ 4096) (hl : l.length ≤ 50) (d : Nat) : ∀ (k i : Nat), l.length - i = d → i ≤ l.length → d + 5000 < k → 
    mandateref02_Row.l1 k vs l (addAll vs (l.take i)) ((l.take i).map (num (addAll vs (l.take i)))) (i : Int) = some (if 4096 < (addAll vs l).length then (vs, [], 3) else (addAll vs l, l.map (num (addAll vs l)), 0)) := by
  induction d with
  | zero =>
    intro k i hd hi hk
    obtain ⟨k, rfl⟩ : ∃ m, k = m + 1 := ⟨k - 1, by omega⟩
    simp only [mandateref02_Row.l1]
    rw [if_neg (by omega), List.take_of_length_le (by omega)]
    by_cases h : 4096 < (addAll vs l).length
    · rw [if_pos (by omega), if_pos h]
    · rw [if_neg (by omega), if_neg h]
  | succ d ih =>
    intro k i hd hi hk
    obtain ⟨k, rfl⟩ : ∃ m, k = m + 1 := ⟨k - 1, by omega⟩
    have hlt : i < l.length := by omega
    obtain ⟨x, hx⟩ : ∃ x, x = rd_T31 l (i : Int) := ⟨_, rfl⟩
    have htk : l.take (i + 1) = l.take i ++ [x] := by rw [List.take_add_one, hx]; simp [rd_T31, hlt]
    have ih' := ih k (i + 1) (by omega) (by omega) (by omega)
    rw [htk, addAll_snoc] at ih'
    have hal := addAll_length_le (l.take i) vs
    have hti : (l.take i).length ≤ 50 := by rw [List.length_take]; omega
    obtain ⟨acc, hacc⟩ : ∃ a, a = addAll vs (l.take i) := ⟨_, rfl⟩
    have hpre : ∀ y ∈ l.take i, y ∈ acc := fun y hy => by rw [hacc]; exact mem_addAll _ _ _ (.inl hy)
    rw [← hacc] at ih' hal ⊢
    simp only [mandateref02_Row.l1]
    rw [if_pos (by omega), if_pos (by omega), ← hx]
    rw [find_f acc x (by omega) (by omega)]
    simp only [Option.bind_some]
    by_cases hm : x ∈ acc
    · have hf := fnd_in hm
      rw [if_neg (by omega), if_pos (by rw [List.length_map]; omega), wrap_one (by omega) (by omega)]
      rw [addOne_old hm, List.map_append] at ih'
      rw [hf.1]
      exact ih'
    · rw [fnd_none hm, if_pos (by omega), if_pos (by omega)]
      have hx2 : (⟨x.f0, x.f1⟩ : S31) = x := rfl
      rw [hx2, find_f (acc ++ [x]) x (by simp; omega) (by simp; omega)]
      simp only [Option.bind_some]
      rw [if_pos (by rw [List.length_map]; omega), wrap_one (by omega) (by omega)]
      rw [addOne_new hm, List.map_append, nums_stay hpre] at ih'
      have hin : x ∈ acc ++ [x] := by simp
      rw [(fnd_in hin).1]
      exact ih'

theorem row_l0 (vs l : List S31) (hv : vs.length ≤ 4096) (hl : l.length ≤ 50) (d : Nat) : ∀ (k i : Nat), l.length - i = d → i ≤ l.length → d + 5100 < k → (∀ y ∈ l.take i, goodV y = true) →
    mandateref02_Row.l0 k vs l (i : Int) = some (rowVs 4096 vs l, rowNs 4096 vs l, rowE 4096 vs l) := by
  induction d with
  | zero =>
    intro k i hd hi hk hg
    obtain ⟨k, rfl⟩ : ∃ m, k = m + 1 := ⟨k - 1, by omega⟩
    rw [List.take_of_length_le (by omega)] at hg
    simp only [mandateref02_Row.l0]
    rw [if_neg (by omega)]
    simp only [Option.bind_some]
    rw [if_pos (by simp; omega)]
    have := row_l1 vs l hv hl l.length k 0 (by omega) (by omega) (by omega)
    simp only [List.take_zero, List.map_nil, Int.ofNat_zero, Int.natCast_zero] at this
    have e0 : addAll vs [] = vs := rfl
    rw [e0] at this
    rw [List.nil_append]
    refine Eq.trans this ?_
    unfold rowVs rowNs
    by_cases h : 4096 < (addAll vs l).length
    · rw [if_pos h, rowE_three hg h, if_neg (by omega), if_neg (by omega)]
    · rw [if_neg h, rowE_zero hg h, if_pos rfl, if_pos rfl]
  | succ d ih =>
    intro k i hd hi hk hg
    obtain ⟨k, rfl⟩ : ∃ m, k = m + 1 := ⟨k - 1, by omega⟩
    have hlt : i < l.length := by omega
    obtain ⟨x, hx⟩ : ∃ x, x = rd_T31 l (i : Int) := ⟨_, rfl⟩
    have htk : l.take (i + 1) = l.take i ++ [x] := by rw [List.take_add_one, hx]; simp [rd_T31, hlt]
    simp only [mandateref02_Row.l0]
    rw [if_pos (by omega), if_pos (by omega), ← hx, good_mono (by omega)]
    simp only [Option.bind_some]
    by_cases h : goodV x = true
    · rw [if_pos h, wrap_one (by omega) (by omega)]
      exact ih k (i + 1) (by omega) (by omega) (by omega) (row_keep htk hg h)
    · rw [if_neg h]
      have hxl : x ∈ l := by rw [hx]; exact rd_mem hlt
      have hE : rowE 4096 vs l = 1 := by
        unfold rowE
        rw [if_pos (by rw [List.all_eq_false]; exact ⟨x, hxl, h⟩)]
      unfold rowVs rowNs
      rw [hE, if_neg (by omega), if_neg (by omega)]
theorem row_f (vs l : List S31) (hv : vs.length ≤ 4096) (hl : l.length ≤ 50) : mandateref02_Row.f 6000 vs l = some (rowVs 4096 vs l, rowNs 4096 vs l, rowE 4096 vs l) := by
  unfold mandateref02_Row.f
  exact row_l0 vs l hv hl l.length 6000 0 (by omega) (by omega) (by omega) (by simp)

end Go.Proofs.Ytjkicljcmognhaa.PInternPlays
