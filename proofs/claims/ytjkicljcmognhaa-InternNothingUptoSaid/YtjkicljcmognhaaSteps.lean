/- The laws' steps: a copy of a list, a Row of it, what is held beside the pool, two lists alike. No condition beyond those each theorem names. -/
import Derived.Test.YtjkicljcmognhaaFixed
import Derived.Test.YtjkicljcmognhaaSameW
namespace Go.Proofs.Ytjkicljcmognhaa.PInternPlays
open Go.RowKit Go.Proofs.YtjkicljcmognhaaW.PrintWords Go.Proofs.YtjkicljcmognhaaW.PrintLast Go.Proofs.YtjkicljcmognhaaW.PrintMore
set_option linter.unusedVariables false
set_option linter.unusedSimpArgs false

theorem R_lone {α : Type} (d : Kd α) (e : Nat) (hs : 0 < d.sz) (W : World) : Kd.R d e (W.alloc (.cells #[] e)) W.heap.size (fun k => W.heap.size ≤ k) (.slice (some ⟨W.heap.size, 0, none⟩) 0 0) ([] : List α) :=
  R_empty (World.ownsRow_made W #[] 0 (Nat.le_refl _) (by unfold maxLen; omega) (by simp)) (fun k hk => by simp [Value.ownBlock] at hk; omega)

section
variable {ops : Array Oper} {o : Oper} {rest : List Oper} {a : Act} {Q : Exit → Act → World → Prop}
/-- 'append([]api.Value{}, l...)', behind the empty literal. -/
theorem copy_vals {W : World} (hgd : o.guard = none) (s x : Operand) (ho : o.op = .call { callee := .builtin .append, args := #[s, x], argTypes := #[26, 26] }) {n0 : Nat} (hn0 : W.heap.size = n0) (A : Option Addr) (c : Nat) (l : List S31)
    (hs : a.eval s = .slice (some ⟨n0, 0, none⟩) 0 0) (hx : a.eval x = .slice A l.length c) (hC : Kd.C k31 W A l.length l) (hl : l.length * 24 ≤ 140737488355328)
    (h : ∀ A1 c1 w1, Kd.R k31 31 w1 W.heap.size (fun k => W.heap.size ≤ k) (.slice A1 l.length c1) l → Below W.heap.size W w1 → wpList Try.prog ops Q rest (a.put o.dst (.slice A1 l.length c1)) w1) :
    wpList Try.prog ops Q (o :: rest) a (W.alloc (.cells #[] 31)) := by
  subst hn0
  refine Kd.R_append_rows k31 (w0 := W) (Rr := k31.K (W.alloc (.cells #[] 31))) W.heap.size hgd s x 26 31 (.agg #[(.string ⟨#[]⟩), (.int .i64 0)]) 24 ho Try.underlying26 info31 rfl (by decide) (by omega) _ [] l A l.length c (fun k => W.heap.size ≤ k) (fun _ => False) hs hx
    (R_lone k31 31 (by decide) W) (Kd.C_alloc hC _) (fun _ _ h => h) (fun _ h => h.elim) (fun k hk => by simp at hk; omega) (below_alloc (Below.refl _ _) _) (by simp) (by simpa using hl) ?_
  intro v1 w1 h1 h2 h3 h4
  rw [List.nil_append] at h1
  obtain ⟨A1, c1, rfl⟩ := Kd.R_slice h1
  exact h A1 c1 w1 h1 h2
/-- 'append([]int{}, l...)', behind the empty literal. -/
theorem copy_ints {W : World} (hgd : o.guard = none) (s x : Operand) (ho : o.op = .call { callee := .builtin .append, args := #[s, x], argTypes := #[27, 27] }) {n0 : Nat} (hn0 : W.heap.size = n0) (A : Option Addr) (c : Nat) (l : List Int)
    (hs : a.eval s = .slice (some ⟨n0, 0, none⟩) 0 0) (hx : a.eval x = .slice A l.length c) (hC : Kd.C (Kd.int .i64) W A l.length l) (hl : l.length * 8 ≤ 140737488355328)
    (h : ∀ A1 c1 w1, Kd.R (Kd.int .i64) 3 w1 W.heap.size (fun k => W.heap.size ≤ k) (.slice A1 l.length c1) l → Below W.heap.size W w1 → wpList Try.prog ops Q rest (a.put o.dst (.slice A1 l.length c1)) w1) :
    wpList Try.prog ops Q (o :: rest) a (W.alloc (.cells #[] 3)) := by
  subst hn0
  refine Kd.R_append_rows (Kd.int .i64) (w0 := W) (Rr := (Kd.int .i64).K (W.alloc (.cells #[] 3))) W.heap.size hgd s x 27 3 (.int .i64 0) 8 ho Try.underlying27 info3 rfl (by decide) (by omega) _ [] l A l.length c (fun k => W.heap.size ≤ k) (fun _ => False) hs hx
    (R_lone (Kd.int .i64) 3 (by decide) W) (Kd.C_alloc hC _) (fun _ _ h => h) (fun _ h => h.elim) (fun k hk => by simp at hk; omega) (below_alloc (Below.refl _ _) _) (by simp) (by simpa using hl) ?_
  intro v1 w1 h1 h2 h3 h4
  rw [List.nil_append] at h1
  obtain ⟨A1, c1, rfl⟩ := Kd.R_slice h1
  exact h A1 c1 w1 h1 h2
end

/-- What a Row of a list's copy comes to, told of the world ahead of the copy. -/
def RowStep (W : World) (base : Nat) (P : Nat → Prop) (pv : Value) (room : Nat) (vs l : List S31) (e : Ending) (w' : World) : Prop :=
  ∃ (A0 : Option Addr) (c0 : Nat) (P' : Nat → Prop), e = .returned (.tuple #[.slice A0 (rowNs room vs l).length c0, .int .i64 (rowE room vs l)]) ∧ (∀ k, P' k → P k ∨ W.heap.size ≤ k) ∧ PoolR w' base P' pv room (rowVs room vs l) ∧
    Kd.R (Kd.int .i64) 3 w' base (fun k => ¬ P' k ∧ W.heap.size ≤ k) (.slice A0 (rowNs room vs l).length c0) (rowNs room vs l) ∧ Below base W w' ∧ Kept W w' P

theorem row_copy {W w1 : World} {base : Nat} {P : Nat → Prop} {pv : Value} {room : Nat} {vs l : List S31} (hq : PoolR W base P pv room vs) (hbase : base ≤ W.heap.size) (hb : Below W.heap.size W w1) {A1 : Option Addr} {c1 : Nat}
    (ho : Kd.R k31 31 w1 W.heap.size (fun k => W.heap.size ≤ k) (.slice A1 l.length c1) l) (hn : l.length * 8 ≤ 140737488355328) : Calls Try.prog 15 #[pv, .slice A1 l.length c1] w1 (RowStep W base P pv room vs l) := by
  refine (Row_any (hq.bound.below hb) (Nat.le_trans hbase hb.size) A1 c1 l (fun W' hk => Kd.C_kept_own ho (fun k h1 h2 => by have := h2.2.1; omega) W' hk) (Kd.R_reads' ho).2.1 hn).mono ?_
  rintro e w' ⟨v0, P', h1, h2, h3, h4, h5, h6⟩
  obtain ⟨A0, c0, rfl⟩ := Kd.R_slice h4
  refine ⟨A0, c0, P', h1, fun k hk => ?_, h3, Kd.R_lower (Kd.R_mono h4 (fun k hk => ⟨hk.2, Nat.le_trans hb.size hk.1⟩)) (Nat.le_trans hbase hb.size), (hb.mono hbase).trans h5, ?_⟩
  · rcases h2 k hk with h | h
    · exact .inl h.1
    · exact .inr (Nat.le_trans hb.size h)
  · exact (Kept.of_below hb P).then_ h6 (fun k h => .inl h.1)

/-- A row held beside the pool, over a Row. -/
theorem R_beside {α : Type} {d : Kd α} {e b : Nat} {w w' : World} {P P' : Nat → Prop} {v : Value} {xs : List α} (h : Kd.R d e w b (fun k => ¬ P k) v xs) (hk : Kept w w' P) (hp : ∀ k, P' k → P k ∨ w.heap.size ≤ k) : Kd.R d e w' b (fun k => ¬ P' k) v xs := by
  refine Kd.R_mono (Kd.R_kept (Kd.R_bound h) hk (fun k h1 h2 => h1.1 h2)) (fun k h1 h2 => ?_)
  rcases hp k h2 with h3 | h3
  · exact h1.1 h3
  · have := h1.2.2.1; omega

theorem PoolR.lower {w : World} {b b' : Nat} {P : Nat → Prop} {pv : Value} {room : Nat} {vs : List S31} (h : PoolR w b P pv room vs) (hb : b' ≤ b) : PoolR w b' P pv room vs := by
  rcases h with h | ⟨pb, h1, h2, mb, rv, k1, k2, k3, k4, k5, k6, k7, k8⟩
  · exact .inl h
  · exact .inr ⟨pb, h1, h2, mb, rv, k1, Nat.le_trans hb k2, k3, k4, Nat.le_trans hb k5, k6, Kd.R_lower k7 hb, k8⟩
/-- Another pool, over what is done to this one. -/
theorem Pool_beside {w w' : World} {b : Nat} {P P' S : Nat → Prop} {qv : Value} {room : Nat} {vs : List S31} (h : PoolR w b S qv room vs) (hd : ∀ k, S k → ¬ P k) (hk : Kept w w' P) (hp : ∀ k, P' k → P k ∨ w.heap.size ≤ k) :
    ∃ S', PoolR w' b S' qv room vs ∧ (∀ k, S' k → ¬ P' k) ∧ (∀ k, S' k → S k ∧ k < w.heap.size) := by
  refine ⟨_, h.bound.step (fun k h1 h2 => hk.2 k h2 (hd k h1.1)), fun k h1 h2 => ?_, fun k h1 => ⟨h1.1, h1.2.1⟩⟩
  rcases hp k h2 with h3 | h3
  · exact hd k h1.1 h3
  · omega
/-- A row held beside both. -/
theorem R_beside2 {α : Type} {d : Kd α} {e b : Nat} {w w' : World} {P S S' : Nat → Prop} {v : Value} {xs : List α} (h : Kd.R d e w b (fun k => ¬ P k ∧ ¬ S k) v xs) (hk : Kept w w' S) (hs : ∀ k, S' k → S k ∨ w.heap.size ≤ k) {P' : Nat → Prop} (hp : ∀ k, P' k → P k ∨ w.heap.size ≤ k) : Kd.R d e w' b (fun k => ¬ P' k ∧ ¬ S' k) v xs := by
  refine Kd.R_mono (Kd.R_kept (Kd.R_bound h) hk (fun k h1 h2 => h1.1.2 h2)) (fun k h1 => ⟨fun h2 => ?_, fun h2 => ?_⟩)
  · rcases hp k h2 with h3 | h3
    · exact h1.1.1 h3
    · have := h1.2.2.1; omega
  · rcases hs k h2 with h3 | h3
    · exact h1.1.2 h3
    · have := h1.2.2.1; omega

theorem wrap_one {i : Int} (h0 : 0 ≤ i) (h : i ≤ 1000000000000000000) : wrap64 (i + 1) = i + 1 := by
  unfold wrap64
  omega
end Go.Proofs.Ytjkicljcmognhaa.PInternPlays
