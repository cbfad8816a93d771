/- The plain laws of a pool that is filled up. No condition beyond those each theorem names. -/
import Derived.Test.YtjkicljcmognhaaPures
namespace Go.Proofs.Ytjkicljcmognhaa.PInternPlays
open Go.RowKit Go.Proofs.YtjkicljcmognhaaW.PrintWords Go.Proofs.YtjkicljcmognhaaW.PrintLast Go.Proofs.YtjkicljcmognhaaW.PrintMore
set_option linter.unusedVariables false
set_option linter.unusedSimpArgs false

/-- A number's value. -/
def nv (i : Int) : S31 := ⟨⟨#[]⟩, i⟩
/-- The values of the numbers below n. -/
def upL (n : Nat) : List S31 := (List.range n).map fun (i : Nat) => nv (i : Int)
theorem upL_len (n : Nat) : (upL n).length = n := by simp [upL]
theorem upL_succ (n : Nat) : upL (n + 1) = upL n ++ [nv n] := by simp [upL, List.range_succ]
theorem nv_inj {i j : Int} (h : nv i = nv j) : i = j := by injection h
theorem upL_mem {n : Nat} {i : Int} : nv i ∈ upL n ↔ 0 ≤ i ∧ i < n := by
  unfold upL
  simp only [List.mem_map, List.mem_range]
  constructor
  · rintro ⟨a, h1, h2⟩
    have := nv_inj h2
    omega
  · rintro ⟨h1, h2⟩
    exact ⟨i.toNat, by omega, by rw [Int.toNat_of_nonneg h1]⟩
theorem nv_good (i : Int) : goodV (nv i) = true := by
  unfold goodV nv
  rw [show (decide ((⟨⟨#[]⟩, i⟩ : S31).f0.size = 0)) = true from rfl]
  rfl
theorem upL_good {n : Nat} : ∀ x ∈ upL n, goodV x = true := by
  unfold upL
  simp only [List.mem_map, List.mem_range]
  rintro x ⟨a, h1, rfl⟩
  exact nv_good _
theorem addAll_up : ∀ n : Nat, addAll [] (upL n) = upL n
  | 0 => rfl
  | n + 1 => by
    rw [upL_succ, addAll_snoc, addAll_up n, addOne_new (by rw [upL_mem]; omega)]
theorem idx_up : ∀ (n i : Nat), i < n → idx (upL n) (nv i) = some i
  | 0, i, h => by omega
  | n + 1, i, h => by
    rw [upL_succ]
    by_cases hn : i < n
    · exact idx_append (idx_up n i hn)
    · obtain rfl : i = n := by omega
      have := idx_new (a := upL i) (v := nv i) (idx_none.2 (by rw [upL_mem]; omega))
      rw [upL_len] at this
      exact this
theorem num_up {n : Nat} {i : Int} (h0 : 0 ≤ i) (h : i < n) : num (upL n) (nv i) = i := by
  have := idx_up n i.toNat (by omega)
  rw [Int.toNat_of_nonneg h0] at this
  unfold num
  rw [this]
  exact Int.toNat_of_nonneg h0
def vx : S31 := ⟨⟨#[120]⟩, 0⟩
def vy : S31 := ⟨⟨#[121]⟩, 0⟩
theorem good_x : goodV vx = true := by decide +kernel
theorem good_y : goodV vy = true := by decide +kernel
theorem sym_up {x : S31} (h : x.f0 ≠ ⟨#[]⟩) (n : Nat) : x ∉ upL n := by
  unfold upL
  simp only [List.mem_map, List.mem_range]
  rintro ⟨a, h1, rfl⟩
  exact h rfl
theorem x_up (n : Nat) : vx ∉ upL n := sym_up (by decide +kernel) n
theorem y_up (n : Nat) : vy ∉ upL n := sym_up (by decide +kernel) n
theorem xy : vx ≠ vy := by decide +kernel
theorem y_upx (n : Nat) : vy ∉ upL n ++ [vx] := by
  simp only [List.mem_append, List.mem_singleton, not_or]
  exact ⟨y_up n, fun h => xy h.symm⟩
/-- What the law asks of L, the values of N numbers, and of M, one more. -/
def FullAt (N : Nat) (L M : List S31) : Prop :=
  addAll [] L = L ∧ L.length = N ∧ M.length = N + 1 ∧ rowE (N + 1) [] L = 0 ∧ rowE (N + 1) L [vx, vy] = 3 ∧ rowE (N + 1) L [vx] = 0 ∧ num (addOne L vx) vx = N ∧ addOne L vx = M ∧ rowE (N + 1) M [vy] = 3 ∧
    ∀ m : Int, 0 ≤ m → m < N → rowE (N + 1) M [nv m] = 0 ∧ num (addOne M (nv m)) (nv m) = m ∧ addOne M (nv m) = M
theorem addAll_one (vs : List S31) (x : S31) : addAll vs [x] = addOne vs x := rfl
theorem addAll_two (vs : List S31) (x y : S31) : addAll vs [x, y] = addOne (addOne vs x) y := rfl
theorem full_at (N : Nat) : FullAt N (upL N) (upL N ++ [vx]) := by
  have hadd : addOne (upL N) vx = upL N ++ [vx] := addOne_new (x_up _)
  have hold : ∀ m : Int, 0 ≤ m → m < N → addOne (upL N ++ [vx]) (nv m) = upL N ++ [vx] := fun m h0 h => addOne_old (by rw [List.mem_append]; exact .inl (upL_mem.2 ⟨h0, h⟩))
  refine ⟨addAll_up N, upL_len N, by simp [upL_len], rowE_zero upL_good (by rw [addAll_up, upL_len]; omega), ?_, ?_, ?_, hadd, ?_, fun m h0 h => ⟨?_, ?_, hold m h0 h⟩⟩
  · unfold rowE
    rw [if_neg (by simp [good_x, good_y]), if_pos]
    rw [addAll_two, hadd, addOne_new (y_upx _)]
    simp [upL_len]
  · refine rowE_zero (by simp [good_x]) ?_
    rw [addAll_one, hadd]
    simp [upL_len]
  · rw [hadd]
    unfold num
    rw [idx_new (idx_none.2 (x_up _)), upL_len]
    rfl
  · unfold rowE
    rw [if_neg (by simp [good_y]), if_pos]
    rw [addAll_one, addOne_new (y_upx _)]
    simp [upL_len]
  · refine rowE_zero (by simp [nv_good]) ?_
    rw [addAll_one, hold m h0 h]
    simp [upL_len]
  · rw [hold m h0 h, num_append (upL_mem.2 ⟨h0, h⟩)]
    exact num_up h0 h
theorem full_any : ∃ L M, L = upL 4095 ∧ FullAt 4095 L M := ⟨_, _, rfl, full_at 4095⟩

end Go.Proofs.Ytjkicljcmognhaa.PInternPlays
