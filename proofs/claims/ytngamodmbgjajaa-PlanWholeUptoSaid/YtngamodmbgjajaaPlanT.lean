/- The reference's next, Goes and From, whole. No condition beyond those each theorem names. -/
import Derived.Test.YtngamodmbgjajaaPlanS
namespace Go.Proofs.Ytngamodmbgjajaa.PPlanOrders
open Go.RowKit Go.Proofs.YtngamodmbgjajaaW.PrintWords Go.Proofs.YtngamodmbgjajaaW.PrintLast Go.Proofs.YtngamodmbgjajaaW.PrintMore
set_option linter.unusedVariables false
set_option linter.unusedSimpArgs false

theorem next_f {body : List S24} (hb : Small body) (a : Int) (b : ByteArray) (hd_ : List S50) (out : List Int) (ho : out.length ≤ 100) {k : Nat} (hk : 400000000 ≤ k) :
    mandateref13_next.f k a b hd_ body out = some (scan body (boundP body out) out body.length 0 (-1) (-1)).2 := by
  unfold mandateref13_next.f
  rw [rbound_f hb a b hd_ out ho hk]
  simp only [Option.bind_some]
  have hbl := boundP_len hb ho
  have hlen := hb.1
  have h0 := next_l0 hb a b hd_ out ho (boundP body out) (by omega) (mandateref13_next.l1 (k - body.length - 1) out (boundP body out) (-1) 0 a b hd_ body) body.length k 0 (-1) (-1) (by omega) (by omega) (fun k' h => by
    by_cases he : k = k' + body.length + 1
    · left
      rw [show k - body.length - 1 = k' by omega]
    · right
      exact he)
  refine Eq.trans h0 ?_
  cases hs : (scan body (boundP body out) out body.length 0 (-1) (-1)).1 with
  | true =>
    unfold pick
    rw [hs]
    rfl
  | false =>
    unfold pick
    rw [hs]
    show mandateref13_next.l1 (k - body.length - 1) out (boundP body out) (-1) 0 a b hd_ body = _
    exact next_l1 hb a b hd_ out ho (boundP body out) (by omega) body.length (k - body.length - 1) 0 (-1) (-1) (by omega) (by omega) hs (.inl ⟨rfl, rfl⟩)

theorem goes_l1 {body : List S24} (hb : Small body) (a : Int) (b : ByteArray) (hd_ : List S50) (d : Nat) : ∀ (k : Nat) (out : List Int), body.length - out.length = d → out.length ≤ 40 → 400000000 + d < k →
    mandateref13_Goes.l1 k out a b hd_ body = some (goesP body d out (boundP body out)) := by
  induction d with
  | zero =>
    intro k out hd ho hk
    obtain ⟨k, rfl⟩ : ∃ m, k = m + 1 := ⟨k - 1, by omega⟩
    simp only [mandateref13_Goes.l1, goesP]
    rw [if_neg (by omega)]
  | succ d ih =>
    intro k out hd ho hk
    obtain ⟨k, rfl⟩ : ∃ m, k = m + 1 := ⟨k - 1, by omega⟩
    have hlen := hb.1
    simp only [mandateref13_Goes.l1, goesP]
    rw [if_pos (by omega), next_f hb a b hd_ out (by omega) (by omega)]
    simp only [Option.bind_some]
    have hin := scan_in body (boundP body out) out body.length 0 (-1) (-1) (by omega) (.inl rfl)
    obtain ⟨s, hs⟩ : ∃ s, s = scan body (boundP body out) out body.length 0 (-1) (-1) := ⟨_, rfl⟩
    rw [← hs] at hin ⊢
    clear hs
    obtain ⟨f, t⟩ := s
    cases f with
    | true =>
      have h1 := hin.1 rfl
      dsimp only at h1 ⊢
      rw [if_neg (by omega), if_pos (by omega), if_pos rfl]
      rw [ih k (out ++ [t]) (by simp; omega) (by simp; omega) (by omega), boundP_other h1.2.2.2]
    | false =>
      have h1 := hin.2 rfl
      dsimp only at h1 ⊢
      rw [if_neg (c := false = true) (by simp)]
      rcases h1 with h1 | h1
      · rw [if_pos (by omega), if_pos (by omega)]
      · rw [if_neg (by omega), if_pos (by omega), if_neg (by omega)]
        rw [ih k (out ++ [t]) (by simp; omega) (by simp; omega) (by omega), boundP_lpos h1.1 h1.2.1 h1.2.2.2]

theorem kinds_take {body : List S24} {i : Nat} (hi : i < body.length) : kindsOk (body.take (i + 1)) = (kindsOk (body.take i) && decide (1 ≤ (rd_T24 body (i : Int)).f0 ∧ (rd_T24 body (i : Int)).f0 ≤ 4)) := by
  have : rd_T24 body (i : Int) = body[i] := by simp [rd_T24, hi]
  rw [this, List.take_add_one, List.getElem?_eq_getElem hi]
  unfold kindsOk
  rw [List.all_append]
  congr 1
  show (decide _ && true) = _
  rw [Bool.and_true]
theorem goes_l0 {body : List S24} (hb : Small body) (a : Int) (b : ByteArray) (hd_ : List S50) (out : List Int) (ho : out.length ≤ 40) (d : Nat) : ∀ (k i : Nat), i + d = body.length → 500000000 + d < k → kindsOk (body.take i) = true →
    mandateref13_Goes.l0 k out i a b hd_ body = some (planP body out) := by
  induction d with
  | zero =>
    intro k i hi hk hg
    obtain ⟨k, rfl⟩ : ∃ m, k = m + 1 := ⟨k - 1, by omega⟩
    have hlen := hb.1
    rw [List.take_of_length_le (by omega)] at hg
    simp only [mandateref13_Goes.l0]
    rw [if_neg (by omega)]
    simp only [Option.bind_some]
    rw [if_pos (by simp; omega), List.nil_append]
    unfold planP
    rw [if_pos hg]
    exact goes_l1 hb a b hd_ _ k out rfl ho (by omega)
  | succ d ih =>
    intro k i hi hk hg
    obtain ⟨k, rfl⟩ : ∃ m, k = m + 1 := ⟨k - 1, by omega⟩
    have hlen := hb.1
    have hib : i < body.length := by omega
    have hkt := kinds_take hib
    have hbad : ¬ (1 ≤ (rd_T24 body (i : Int)).f0 ∧ (rd_T24 body (i : Int)).f0 ≤ 4) → kindsOk body = false := fun h => by
      unfold kindsOk
      rw [List.all_eq_false]
      refine ⟨rd_T24 body (i : Int), by simp [rd_T24, hib], by simpa using h⟩
    simp only [mandateref13_Goes.l0]
    rw [if_pos (by omega), if_pos (by omega)]
    by_cases h1 : (rd_T24 body (i : Int)).f0 < 1
    · rw [if_pos h1]
      unfold planP
      rw [if_neg (by rw [hbad (by omega)]; simp)]
    · rw [if_neg h1]
      by_cases h4 : (rd_T24 body (i : Int)).f0 > 4
      · rw [if_pos h4]
        unfold planP
        rw [if_neg (by rw [hbad (by omega)]; simp)]
      · rw [if_neg h4, wrap_up (by omega) (by omega)]
        refine ih k (i + 1) (by omega) (by omega) ?_
        rw [hkt, hg, decide_eq_true ⟨by omega, by omega⟩]
        rfl
theorem goes_f {body : List S24} (hb : Small body) (a : Int) (b : ByteArray) (hd_ : List S50) (out : List Int) (ho : out.length ≤ 40) {k : Nat} (hk : 600000000 ≤ k) : mandateref13_Goes.f k a b hd_ body out = some (planP body out) := by
  unfold mandateref13_Goes.f
  have hlen := hb.1
  exact goes_l0 hb a b hd_ out ho body.length k 0 (by omega) (by omega) rfl
/-- The plan that begins with a literal. -/
def fromP (body : List S24) (k : Int) : List Int × Bool := if 0 ≤ k ∧ k < body.length ∧ (rd_T24 body k).f0 = 1 then planP body [k] else ([], false)
theorem from_f {body : List S24} (hb : Small body) (a : Int) (b : ByteArray) (hd_ : List S50) (n : Int) {k : Nat} (hk : 600000000 ≤ k) : mandateref13_From.f k a b hd_ body n = some (fromP body n) := by
  unfold mandateref13_From.f fromP
  by_cases h0 : n < 0
  · rw [if_pos h0, if_neg (fun h => by omega)]
  · rw [if_neg h0]
    by_cases h1 : n ≥ (body.length : Int)
    · rw [if_pos h1, if_neg (fun h => by omega)]
    · rw [if_neg h1, if_pos (by omega), if_pos (by omega)]
      by_cases h2 : (rd_T24 body n).f0 = 1
      · rw [if_pos h2, if_pos ⟨by omega, by omega, h2⟩, goes_f hb a b hd_ [n] (by simp) hk]
        rfl
      · rw [if_neg h2, if_neg (fun h => h2 h.2.2)]

end Go.Proofs.Ytngamodmbgjajaa.PPlanOrders
