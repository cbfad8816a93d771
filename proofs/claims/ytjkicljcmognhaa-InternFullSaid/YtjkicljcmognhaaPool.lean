/- A pool in memory, and what New, Len, Find and Clear answer. No condition beyond those each theorem names. -/
import Derived.Test.YtjkicljcmognhaaMaps
import Derived.WalkSpells
namespace Go.Proofs.Ytjkicljcmognhaa.PInternPlays
open Go.RowKit Go.Proofs.YtjkicljcmognhaaW.PrintWords Go.Proofs.YtjkicljcmognhaaW.PrintLast Go.Proofs.YtjkicljcmognhaaW.PrintMore
set_option linter.unusedVariables false
set_option linter.unusedSimpArgs false

/-- Values with their numbers, from i on. -/
def numd : List S31 → Nat → List (S31 × Int)
  | [], _ => []
  | v :: r, i => (v, (i : Int)) :: numd r (i + 1)
theorem numd_length : ∀ (l : List S31) (i : Nat), (numd l i).length = l.length
  | [], _ => rfl
  | _ :: r, i => by simp [numd, numd_length r]
theorem numd_snoc (x : S31) : ∀ (l : List S31) (i : Nat), numd (l ++ [x]) i = numd l i ++ [(x, ((i + l.length : Nat) : Int))]
  | [], i => by simp [numd]
  | y :: r, i => by
    simp only [List.cons_append, numd, numd_snoc x r, List.length_cons]
    rw [show i + 1 + r.length = i + (r.length + 1) from by omega]
/-- A value's number in a list of values. -/
def idx : List S31 → S31 → Option Nat
  | [], _ => none
  | y :: r, v => if v = y then some 0 else (idx r v).map (· + 1)
theorem look_numd (v : S31) : ∀ (l : List S31) (i : Nat), look (numd l i) v = (idx l v).map fun j => (j, ((i + j : Nat) : Int))
  | [], _ => rfl
  | y :: r, i => by
    simp only [numd, look, idx]
    split
    · simp
    · rw [look_numd v r]
      cases idx r v <;> simp
      omega
theorem idx_none {l : List S31} {v : S31} : idx l v = none ↔ v ∉ l := by
  induction l with
  | nil => simp [idx]
  | cons y r ih =>
    simp only [idx, List.mem_cons]
    split
    · simp_all
    · simp_all
theorem idx_some {l : List S31} {v : S31} {j : Nat} (h : idx l v = some j) : j < l.length ∧ l[j]? = some v := by
  induction l generalizing j with
  | nil => simp [idx] at h
  | cons y r ih =>
    simp only [idx] at h
    split at h
    · injection h with h
      subst h
      simp_all
    · cases hr : idx r v with
      | none => rw [hr] at h; simp at h
      | some i =>
        rw [hr] at h
        simp at h
        subst h
        obtain ⟨h1, h2⟩ := ih hr
        exact ⟨by simp; omega, by simpa using h2⟩

/-- A pool that lies in block pb: the values that have numbers, in their order. P: the blocks that it takes. -/
def PoolAt (w : World) (base : Nat) (P : Nat → Prop) (pb : Nat) (vs : List S31) : Prop :=
  ∃ mb rv, w.heap[pb]? = some (.cells #[.map (some mb), rv] 58 (0, 0)) ∧ base ≤ pb ∧ P pb ∧ MapIs w mb (numd vs 0) ∧ base ≤ mb ∧ P mb ∧ Kd.R k31 31 w base P rv vs ∧ vs.length ≤ 4096

theorem PoolAt.step {w w' : World} {base : Nat} {P : Nat → Prop} {pb : Nat} {vs : List S31} (h : PoolAt w base P pb vs) (hm : ∀ k, P k → k < w.heap.size → w'.heap[k]? = w.heap[k]?) : PoolAt w' base P pb vs := by
  obtain ⟨mb, rv, h1, h2, h3, h4, h5, h6, h7, h8⟩ := h
  exact ⟨mb, rv, (hm pb h3 (blk_lt h1)).trans h1, h2, h3, h4.move (hm mb h6 h4.lt), h5, h6, Kd.R_step h7 hm, h8⟩
theorem PoolAt.mono {w : World} {base : Nat} {P P' : Nat → Prop} {pb : Nat} {vs : List S31} (h : PoolAt w base P pb vs) (hp : ∀ k, P k → P' k) : PoolAt w base P' pb vs := by
  obtain ⟨mb, rv, h1, h2, h3, h4, h5, h6, h7, h8⟩ := h
  exact ⟨mb, rv, h1, h2, hp _ h3, h4, h5, hp _ h6, Kd.R_mono h7 hp, h8⟩
theorem PoolAt.kept {w w' : World} {base : Nat} {P S : Nat → Prop} {pb : Nat} {vs : List S31} (h : PoolAt w base P pb vs) (hk : Kept w w' S) (hn : ∀ k, P k → ¬ S k) : PoolAt w' base P pb vs :=
  h.step (fun k hp hlt => hk.2 k hlt (hn k hp))
theorem PoolAt.below {w w' : World} {base : Nat} {P : Nat → Prop} {pb : Nat} {vs : List S31} (h : PoolAt w base P pb vs) (hb : Below w.heap.size w w') : PoolAt w' base P pb vs :=
  h.step (fun k _ hlt => hb.block k hlt)
theorem PoolAt.alloc {w : World} {base : Nat} {P : Nat → Prop} {pb : Nat} {vs : List S31} (h : PoolAt w base P pb vs) (o : Obj) : PoolAt (w.alloc o) base P pb vs := h.below (below_alloc (Below.refl _ _) o)
theorem PoolAt.drew {w : World} {base : Nat} {P : Nat → Prop} {pb : Nat} {vs : List S31} (h : PoolAt w base P pb vs) : PoolAt w.drew base P pb vs := h.below (below_drew (Below.refl _ _))
theorem PoolAt.drewN {w : World} {base : Nat} {P : Nat → Prop} {pb : Nat} {vs : List S31} (h : PoolAt w base P pb vs) (n : Nat) : PoolAt (w.drewN n) base P pb vs := h.below (pw_below_drewN (Below.refl _ _) n)

set_option maxHeartbeats 1000000 in
theorem New_calls (w : World) : Calls Try.prog 8 #[] w fun e w' => ∃ pb, e = .returned (.pointer (some ⟨pb, 0, none⟩)) ∧ PoolAt w' w.heap.size (fun k => w.heap.size ≤ k) pb [] ∧ Below w.heap.size w w' := by
  have hmm := @run_makeMap Try.prog
  go_enter Try.func8, Try.ntmps8
  go_wp2
  go_ret
  refine ⟨w.heap.size + 1, rfl, ⟨w.heap.size, .slice none 0 0, ?_, by omega, by omega, (MapIs.made w).move (Below.heap_alloc _ _ _ (by simp)), by omega, by omega, Kd.R_nil _ _ _ _ _, by simp⟩, ?_⟩
  · have := blk_new (w.alloc (.map #[] 0)) (.cells #[Value.map (some w.heap.size), Value.slice none 0 0] 58)
    simpa using this
  · exact below_alloc (below_alloc (Below.refl _ _) _) _

theorem Len_nil (w : World) : Calls Try.prog 20 #[.pointer none] w fun e w' => e = .returned (.int .i64 0) ∧ Drawn0 w w' := by
  go_enter Try.func20, Try.ntmps20
  go_wp2
  go_ret
  exact ⟨rfl, Drawn0.refl _⟩

set_option maxHeartbeats 1000000 in
theorem Len_calls {w : World} {base : Nat} {P : Nat → Prop} {pb : Nat} {vs : List S31} (hp : PoolAt w base P pb vs) : Calls Try.prog 20 #[.pointer (some ⟨pb, 0, none⟩)] w fun e w' => e = .returned (.int .i64 vs.length) ∧ Drawn0 w w' := by
  obtain ⟨mb, rv, h1, h2, h3, h4, h5, h6, h7, h8⟩ := hp
  obtain ⟨A, c, rfl⟩ := Kd.R_slice h7
  have c0 : w.cell? ⟨pb, 1, none⟩ = some (.slice A vs.length c) := blk_cell h1 1
  clear h1 h2 h3 h4 h5 h6 h7
  go_enter Try.func20, Try.ntmps20
  go_wp2
  go_ret
  exact ⟨rfl, Drawn0.refl _⟩

set_option maxHeartbeats 1000000 in
theorem Find_nil (w : World) (v : S31) : Calls Try.prog 12 #[.pointer none, vv v] w fun e w' => e = .returned (.tuple #[.int .i64 0, .bool false]) ∧ Below w.heap.size w w' := by
  unfold vv
  go_enter Try.func12, Try.ntmps12
  go_wp2
  go_ret2
  exact ⟨rfl, below_alloc (Below.refl _ _) _⟩

set_option maxHeartbeats 1000000 in
theorem Find_calls {w : World} {base : Nat} {P : Nat → Prop} {pb : Nat} {vs : List S31} (hp : PoolAt w base P pb vs) (v : S31) : Calls Try.prog 12 #[.pointer (some ⟨pb, 0, none⟩), vv v] w fun e w' => e = .returned (.tuple #[.int .i64 (((idx vs v).map fun j => (j : Int)).getD 0), .bool (idx vs v).isSome]) ∧ Below w.heap.size w w' := by
  obtain ⟨mb, rv, h1, h2, h3, h4, h5, h6, h7, h8⟩ := hp
  have hl := ((h4.move (w' := w.alloc (.cells #[.string v.f0, .int .i64 v.f1] 31)) (Below.heap_alloc _ _ _ h4.lt)).move (w' := (w.alloc (.cells #[.string v.f0, .int .i64 v.f1] 31)).drew) rfl).look_ok v
  rw [look_numd] at hl
  have e1 : (Option.map (fun x => x.2) (Option.map (fun j => (j, ((0 + j : Nat) : Int))) (idx vs v))).getD 0 = ((idx vs v).map fun j => (j : Int)).getD 0 := by cases idx vs v <;> simp
  have e2 : (Option.map (fun j => (j, ((0 + j : Nat) : Int))) (idx vs v)).isSome = (idx vs v).isSome := by cases idx vs v <;> simp
  rw [e1, e2] at hl
  generalize ((idx vs v).map fun j => (j : Int)).getD 0 = rn at *
  generalize (idx vs v).isSome = rb at *
  unfold vv at *
  have c0 : (w.alloc (.cells #[.string v.f0, .int .i64 v.f1] 31)).cell? ⟨pb, 0, none⟩ = some (.map (some mb)) := blk_cell (blk_alloc h1 _) 0
  clear h1 h2 h3 h4 h5 h6 h7 e1 e2
  go_enter Try.func12, Try.ntmps12
  go_wp2
  go_region
  all_goals go_wp2
  all_goals go_ret2
  all_goals exact ⟨rfl, below_drew (below_alloc (Below.refl _ _) _)⟩

theorem Clear_nil (w : World) : Calls Try.prog 19 #[.pointer none] w fun e w' => e = .returned (.tuple #[]) ∧ Drawn0 w w' := by
  go_enter Try.func19, Try.ntmps19
  go_wp2
  go_end0
  exact ⟨rfl, Drawn0.refl _⟩

set_option maxHeartbeats 1000000 in
theorem Clear_calls {w : World} {base : Nat} {P : Nat → Prop} {pb : Nat} {vs : List S31} (hp : PoolAt w base P pb vs) : Calls Try.prog 19 #[.pointer (some ⟨pb, 0, none⟩)] w fun e w' => e = .returned (.tuple #[]) ∧ PoolAt w' base P pb [] ∧ Kept w w' P ∧ Below base w w' := by
  obtain ⟨mb, rv, h1, h2, h3, h4, h5, h6, h7, h8⟩ := hp
  obtain ⟨w1, hcl, hm1, hg1⟩ := h4.cleared
  have hne : pb ≠ mb := by
    rintro rfl
    obtain ⟨es, clock, hb, _⟩ := h4
    rw [h1] at hb
    cases hb
  have k1 : w1.heap[pb]? = some (.cells #[.map (some mb), rv] 58 (0, 0)) := blk_grown h1 hg1 (by simpa using hne)
  have c0 : w.cell? ⟨pb, 0, none⟩ = some (.map (some mb)) := blk_cell h1 0
  have c1 : w1.cell? ⟨pb, 1, none⟩ = some rv := blk_cell k1 1
  have f1 : w1.frozen? ⟨pb, 1, none⟩ = false := blk_frozen k1 1
  have F : PoolAt (w1.setCell ⟨pb, 1, none⟩ (.slice none 0 0)) base P pb [] ∧ Kept w (w1.setCell ⟨pb, 1, none⟩ (.slice none 0 0)) P ∧ Below base w (w1.setCell ⟨pb, 1, none⟩ (.slice none 0 0)) := by
    refine ⟨⟨mb, .slice none 0 0, by simpa using blk_set k1 1 (.slice none 0 0), h2, h3, hm1.move (Below.heap_setCell _ _ _ _ (Ne.symm hne)), h5, h6, Kd.R_nil _ _ _ _ _, by simp⟩, ?_, ?_⟩
    · exact (Kept.of_grown hg1 (Kept.refl w P) (fun k hk => .inl (by cases hk; exact h6))).setCell (.inl h3) _
    · refine Below.setCell (Below.trans (Below.refl _ _) ⟨hg1.os, hg1.tape, hg1.output, hg1.size, fun k hk => ?_⟩) h2 _
      by_cases hlt : k < w.heap.size
      · exact hg1.block k hlt (by simp; omega)
      · have := blk_lt h1; omega
  have HF := Aside0.mk F
  clear F k1 hm1 hg1 h1 h2 h3 h4 h5 h6 h7 h8 hne
  go_enter Try.func19, Try.ntmps19
  go_wp2
  go_end0
  exact ⟨rfl, HF.out⟩

end Go.Proofs.Ytjkicljcmognhaa.PInternPlays
