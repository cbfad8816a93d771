/- What the plan's Bound and the reference's small functions compute, in plain lists. No condition beyond those each theorem names. -/
import Derived.Test.YtngamodmbgjajaaPlanP
namespace Go.Proofs.Ytngamodmbgjajaa.PPlanOrders
open Go.RowKit Go.Proofs.YtngamodmbgjajaaW.PrintWords Go.Proofs.YtngamodmbgjajaaW.PrintLast Go.Proofs.YtngamodmbgjajaaW.PrintMore
set_option linter.unusedVariables false
set_option linter.unusedSimpArgs false

/-- Literals that are not too large. -/
def Small (body : List S24) : Prop := body.length ≤ 30 ∧ ∀ k : Int, 0 ≤ k → k < body.length → (rd_T24 body k).f2.length ≤ 1048576

theorem bound_l0 {body : List S24} (hb : Small body) (a : Int) (b : ByteArray) (hd_ : List S50) (l : List Int) (hl : l.length ≤ 1000) (d : Nat) : ∀ (k i : Nat) (out : List ByteArray), l.length - i = d → i ≤ l.length → out.length + d * 1048576 ≤ 200000000 → 2 * d + (out.length + d * 1048576) + 4000000 < k →
    plan_Bound.l0 k out l l.length i a b hd_ body = some (boundFrom body out (l.drop i)) := by
  induction d with
  | zero =>
    intro k i out hd hi ho hk
    obtain ⟨k, rfl⟩ : ∃ m, k = m + 1 := ⟨k - 1, by omega⟩
    simp only [plan_Bound.l0]
    rw [if_neg (by omega), List.drop_of_length_le (by omega)]
    rfl
  | succ d ih =>
    intro k i out hd hi ho hk
    obtain ⟨k, rfl⟩ : ∃ m, k = m + 2 := ⟨k - 2, by omega⟩
    have hlt : i < l.length := by omega
    have hr : rd l (i : Int) = l[i] := by simp [rd, hlt]
    obtain ⟨n, hn⟩ : ∃ n, n = l[i] := ⟨_, rfl⟩
    have hdr : l.drop i = n :: l.drop (i + 1) := by rw [hn]; exact List.drop_eq_getElem_cons hlt
    rw [show k + 2 = (k + 1) + 1 from rfl]
    simp only [plan_Bound.l0]
    rw [if_pos (by omega), if_pos (by omega), if_pos (by omega), hr, ← hn, hdr]
    unfold boundFrom
    have hw := wrap_up (i := (i : Int)) (by omega) (by omega)
    have hstep : ∀ o : List ByteArray, o.length ≤ out.length + 1048576 → plan_Bound.l0 k o l l.length (wrap64 ((i : Int) + 1)) a b hd_ body = some (boundFrom body o (l.drop (i + 1))) := fun o h => by
      rw [hw]
      exact ih k (i + 1) o (by omega) (by omega) (by omega) (by omega)
    have hfalse : plan_Bound.j1 (k + 1) out n l l.length i false a b hd_ body = some (boundFrom body out (l.drop (i + 1))) := by
      simp only [plan_Bound.j1]
      rw [if_neg (by simp)]
      exact hstep out (by omega)
    by_cases h0 : n ≥ 0
    · rw [if_pos h0]
      by_cases h1 : n < (body.length : Int)
      · rw [if_pos h1, if_pos h0]
        by_cases h2 : (rd_T24 body n).f0 = 1
        · have he : ((rd_T24 body n).f0 == 1) = true := by rw [h2]; rfl
          rw [if_pos ⟨h0, h1, h2⟩, he]
          simp only [plan_Bound.j1]
          rw [if_pos trivial, if_pos h0, if_pos h1]
          have hs := hb.2 n h0 h1
          have hvl := varsP_len (rd_T24 body n).f2
          rw [vars_f _ _ _ hs (by omega)]
          simp only [Option.bind_some]
          rw [put_f out _ (by omega) (by omega)]
          simp only [Option.bind_some]
          refine hstep (putsS out (varsP (rd_T24 body n).f2)) ?_
          have := putsS_len (varsP (rd_T24 body n).f2) out
          omega
        · rw [if_neg (fun h => h2 h.2.2)]
          have : ((rd_T24 body n).f0 == 1) = false := by rw [beq_eq_false_iff_ne]; exact h2
          rw [this]
          exact hfalse
      · rw [if_neg h1, if_neg (fun h => h1 h.2.1)]
        exact hfalse
    · rw [if_neg h0, if_neg (fun h => h0 h.1)]
      exact hfalse
theorem bound_f {body : List S24} (hb : Small body) (a : Int) (b : ByteArray) (hd_ : List S50) (l : List Int) (hl : l.length ≤ 100) {k : Nat} (hk : 200000000 ≤ k) : plan_Bound.f k a b hd_ body l = some (boundP body l) := by
  unfold plan_Bound.f
  have := bound_l0 hb a b hd_ l (by omega) l.length k 0 [] (by omega) (by omega) (by simp; omega) (by simp; omega)
  simpa [boundP] using this

theorem in_l0 (l : List ByteArray) (a : ByteArray) (hl : l.length ≤ 1000000000) (d : Nat) : ∀ (k i : Nat), l.length - i = d → i ≤ l.length → d < k → (∀ j, j < i → l[j]? ≠ some a) → mandateref13_In.l0 k l a i = some (decide (a ∈ l)) := by
  induction d with
  | zero =>
    intro k i hd hi hk hn
    obtain ⟨k, rfl⟩ : ∃ m, k = m + 1 := ⟨k - 1, by omega⟩
    simp only [mandateref13_In.l0]
    rw [if_neg (by omega)]
    congr 1
    symm
    refine decide_eq_false (fun h => ?_)
    obtain ⟨j, hj, e⟩ := List.getElem_of_mem h
    exact absurd (by rw [List.getElem?_eq_getElem hj, e]) (hn j (by omega))
  | succ d ih =>
    intro k i hd hi hk hn
    obtain ⟨k, rfl⟩ : ∃ m, k = m + 1 := ⟨k - 1, by omega⟩
    simp only [mandateref13_In.l0]
    have hlt : i < l.length := by omega
    have hr : rdOf ByteArray.empty l (i : Int) = l[i] := by simp [rdOf, hlt]
    rw [if_pos (by omega), if_pos (by omega), hr]
    by_cases he : l[i] = a
    · rw [if_pos (by rw [he])]
      congr 1
      symm
      exact decide_eq_true (by rw [← he]; exact List.getElem_mem hlt)
    · rw [if_neg (fun h => he ((bytes_eq _ _).1 h)), wrap_up (by omega) (by omega)]
      refine ih k (i + 1) (by omega) (by omega) (by omega) (fun j hj => ?_)
      by_cases hji : j < i
      · exact hn j hji
      · obtain rfl : j = i := by omega
        rw [List.getElem?_eq_getElem hlt]
        simpa using he
theorem in_f (l : List ByteArray) (a : ByteArray) (hl : l.length ≤ 1000000000) {k : Nat} (hk : l.length < k) : mandateref13_In.f k l a = some (decide (a ∈ l)) := by
  unfold mandateref13_In.f
  exact in_l0 l a hl l.length k 0 (by omega) (by omega) hk (fun j hj => by omega)
theorem named_l0 (l : List Int) (a : Int) (hl : l.length ≤ 1000000000) (d : Nat) : ∀ (k i : Nat), l.length - i = d → i ≤ l.length → d < k → (∀ j, j < i → l[j]? ≠ some a) → mandateref13_named.l0 k l a i = some (decide (a ∈ l)) := by
  induction d with
  | zero =>
    intro k i hd hi hk hn
    obtain ⟨k, rfl⟩ : ∃ m, k = m + 1 := ⟨k - 1, by omega⟩
    simp only [mandateref13_named.l0]
    rw [if_neg (by omega)]
    congr 1
    symm
    refine decide_eq_false (fun h => ?_)
    obtain ⟨j, hj, e⟩ := List.getElem_of_mem h
    exact absurd (by rw [List.getElem?_eq_getElem hj, e]) (hn j (by omega))
  | succ d ih =>
    intro k i hd hi hk hn
    obtain ⟨k, rfl⟩ : ∃ m, k = m + 1 := ⟨k - 1, by omega⟩
    simp only [mandateref13_named.l0]
    have hlt : i < l.length := by omega
    have hr : rd l (i : Int) = l[i] := by simp [rd, hlt]
    rw [if_pos (by omega), if_pos (by omega), hr]
    by_cases he : l[i] = a
    · rw [if_pos he]
      congr 1
      symm
      exact decide_eq_true (by rw [← he]; exact List.getElem_mem hlt)
    · rw [if_neg he, wrap_up (by omega) (by omega)]
      refine ih k (i + 1) (by omega) (by omega) (by omega) (fun j hj => ?_)
      by_cases hji : j < i
      · exact hn j hji
      · obtain rfl : j = i := by omega
        rw [List.getElem?_eq_getElem hlt]
        simpa using he
theorem named_f (l : List Int) (a : Int) (hl : l.length ≤ 1000000000) {k : Nat} (hk : l.length < k) : mandateref13_named.f k l a = some (decide (a ∈ l)) := by
  unfold mandateref13_named.f
  exact named_l0 l a hl l.length k 0 (by omega) (by omega) hk (fun j hj => by omega)
theorem rput_l0 (l : List ByteArray) (a : ByteArray) (hl : l.length ≤ 1000000000) (d : Nat) : ∀ (k i : Nat), l.length - i = d → i ≤ l.length → d < k → (∀ j, j < i → l[j]? ≠ some a) → mandateref06_Put.l0 k l a i = some (putS l a) := by
  induction d with
  | zero =>
    intro k i hd hi hk hn
    obtain ⟨k, rfl⟩ : ∃ m, k = m + 1 := ⟨k - 1, by omega⟩
    simp only [mandateref06_Put.l0]
    rw [if_neg (by omega), if_pos (by omega)]
    unfold putS
    rw [if_neg]
    intro h
    obtain ⟨j, hj, e⟩ := List.getElem_of_mem h
    exact absurd (by rw [List.getElem?_eq_getElem hj, e]) (hn j (by omega))
  | succ d ih =>
    intro k i hd hi hk hn
    obtain ⟨k, rfl⟩ : ∃ m, k = m + 1 := ⟨k - 1, by omega⟩
    simp only [mandateref06_Put.l0]
    have hlt : i < l.length := by omega
    have hr : rdOf ByteArray.empty l (i : Int) = l[i] := by simp [rdOf, hlt]
    rw [if_pos (by omega), if_pos (by omega), hr]
    by_cases he : l[i] = a
    · rw [if_pos (by rw [he])]
      unfold putS
      rw [if_pos (by rw [← he]; exact List.getElem_mem hlt)]
    · rw [if_neg (fun h => he ((bytes_eq _ _).1 h)), wrap_up (by omega) (by omega)]
      refine ih k (i + 1) (by omega) (by omega) (by omega) (fun j hj => ?_)
      by_cases hji : j < i
      · exact hn j hji
      · obtain rfl : j = i := by omega
        rw [List.getElem?_eq_getElem hlt]
        simpa using he
theorem rput_f (l : List ByteArray) (a : ByteArray) (hl : l.length ≤ 1000000000) {k : Nat} (hk : l.length < k) : mandateref06_Put.f k l a = some (putS l a) := by
  unfold mandateref06_Put.f
  exact rput_l0 l a hl l.length k 0 (by omega) (by omega) hk (fun j hj => by omega)

theorem rvars_l0 (a : Int) (b : ByteArray) (args : List S50) (hal : args.length ≤ 1000000000) (d : Nat) : ∀ (k i : Nat) (out : List ByteArray), args.length - i = d → i ≤ args.length → out.length + d ≤ 900000000 → d + (out.length + d) + 10 < k → mandateref13_Vars.l0 k out i a b args = some (varsFrom out (args.drop i)) := by
  induction d with
  | zero =>
    intro k i out hd hi hl hk
    obtain ⟨k, rfl⟩ : ∃ m, k = m + 1 := ⟨k - 1, by omega⟩
    simp only [mandateref13_Vars.l0]
    rw [if_neg (by omega), List.drop_of_length_le (by omega)]
    rfl
  | succ d ih =>
    intro k i out hd hi hl hk
    obtain ⟨k, rfl⟩ : ∃ m, k = m + 1 := ⟨k - 1, by omega⟩
    simp only [mandateref13_Vars.l0]
    have hlt : i < args.length := by omega
    have hr : rd_T50 args (i : Int) = args[i] := by simp [rd_T50, hlt]
    rw [if_pos (by omega), if_pos (by omega), hr, List.drop_eq_getElem_cons hlt]
    unfold varsFrom
    by_cases h0 : args[i].f0.size = 0
    · rw [if_neg (by omega), if_pos h0, wrap_up (by omega) (by omega)]
      exact ih k (i + 1) out (by omega) (by omega) (by omega) (by omega)
    · rw [if_pos (by omega), if_neg h0, rput_f out args[i].f0 (by omega) (by omega)]
      simp only [Option.bind_some]
      rw [wrap_up (by omega) (by omega)]
      have h1 := putS_len out args[i].f0
      exact ih k (i + 1) (putS out args[i].f0) (by omega) (by omega) (by omega) (by omega)
theorem rvars_f (a : Int) (b : ByteArray) (args : List S50) (hl : args.length ≤ 1048576) {k : Nat} (hk : 3000000 < k) : mandateref13_Vars.f k a b args = some (varsP args) := by
  unfold mandateref13_Vars.f
  have := rvars_l0 a b args (by omega) args.length k 0 [] (by omega) (by omega) (by simp; omega) (by simp; omega)
  simpa [varsP] using this

theorem known_l0 (have_ : List ByteArray) (hh : have_.length ≤ 900000000) (a : Int) (b : ByteArray) (args : List S50) (hal : args.length ≤ 1000000000) (d : Nat) : ∀ (k i n : Nat), args.length - i = d → i ≤ args.length → n ≤ i → d + have_.length + 10 < k → mandateref13_known.l0 k have_ n i a b args = some ((n + (args.drop i).countP (isKnown have_) : Nat) : Int) := by
  induction d with
  | zero =>
    intro k i n hd hi hn hk
    obtain ⟨k, rfl⟩ : ∃ m, k = m + 1 := ⟨k - 1, by omega⟩
    simp only [mandateref13_known.l0]
    rw [if_neg (by omega), List.drop_of_length_le (by omega)]
    simp
  | succ d ih =>
    intro k i n hd hi hn hk
    obtain ⟨k, rfl⟩ : ∃ m, k = m + 1 := ⟨k - 1, by omega⟩
    simp only [mandateref13_known.l0]
    have hlt : i < args.length := by omega
    have hr : rd_T50 args (i : Int) = args[i] := by simp [rd_T50, hlt]
    rw [if_pos (by omega), if_pos (by omega), hr, List.drop_eq_getElem_cons hlt, List.countP_cons]
    rw [wrap_up (i := (i : Int)) (by omega) (by omega), wrap_up (i := (n : Int)) (by omega) (by omega)]
    by_cases h0 : args[i].f0.size = 0
    · rw [if_pos (by omega)]
      have hk1 : isKnown have_ args[i] = true := by unfold isKnown; rw [decide_eq_true h0]; rfl
      rw [hk1, if_pos rfl]
      have := ih k (i + 1) (n + 1) (by omega) (by omega) (by omega) (by omega)
      refine Eq.trans this ?_
      congr 2
      omega
    · rw [if_neg (by omega), in_f have_ args[i].f0 (by omega) (by omega)]
      simp only [Option.bind_some]
      by_cases hm : args[i].f0 ∈ have_
      · rw [if_pos (decide_eq_true hm)]
        have hk1 : isKnown have_ args[i] = true := by unfold isKnown; rw [decide_eq_true hm]; simp
        rw [hk1, if_pos rfl]
        have := ih k (i + 1) (n + 1) (by omega) (by omega) (by omega) (by omega)
        refine Eq.trans this ?_
        congr 2
        omega
      · rw [if_neg (by rw [decide_eq_false hm]; simp)]
        have hk1 : isKnown have_ args[i] = false := by unfold isKnown; rw [decide_eq_false hm, decide_eq_false h0]; rfl
        rw [hk1, if_neg (by simp)]
        have := ih k (i + 1) n (by omega) (by omega) (by omega) (by omega)
        refine Eq.trans this ?_
        congr 2
theorem known_f (have_ : List ByteArray) (hh : have_.length ≤ 900000000) (a : Int) (b : ByteArray) (args : List S50) (hal : args.length ≤ 1048576) {k : Nat} (hk : have_.length + 2000000 < k) : mandateref13_known.f k a b args have_ = some ((knownP args have_ : Nat) : Int) := by
  unfold mandateref13_known.f
  have := known_l0 have_ hh a b args (by omega) args.length k 0 0 (by omega) (by omega) (by omega) (by omega)
  simpa [knownP] using this

end Go.Proofs.Ytngamodmbgjajaa.PPlanOrders
