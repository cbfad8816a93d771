/- The reference's next, Goes and From are the plan's own way through the literals. No condition beyond those each theorem names. -/
import Derived.Test.YtngamodmbgjajaaPlanR
namespace Go.Proofs.Ytngamodmbgjajaa.PPlanOrders
open Go.RowKit Go.Proofs.YtngamodmbgjajaaW.PrintWords Go.Proofs.YtngamodmbgjajaaW.PrintLast Go.Proofs.YtngamodmbgjajaaW.PrintMore
set_option linter.unusedVariables false
set_option linter.unusedSimpArgs false

/-- What is taken at once, else R. -/
def pick (R : Option Int) (s : Bool × Int) : Option Int := cond s.1 (some s.2) R
/-- The first loop: what may be taken at once. -/
theorem next_l0 {body : List S24} (hb : Small body) (a : Int) (b : ByteArray) (hd_ : List S50) (out : List Int) (ho : out.length ≤ 100) (have_ : List ByteArray) (hh : have_.length ≤ 200000000) (R : Option Int) (d : Nat) : ∀ (k i : Nat) (best most : Int), i + d = body.length → 300000000 + d < k →
    (∀ k' : Nat, 300000000 ≤ k' + d → mandateref13_next.l1 k' out have_ (-1) 0 a b hd_ body = R ∨ k ≠ k' + d + 1) →
    mandateref13_next.l0 k out have_ i a b hd_ body = pick R (scan body have_ out d i best most) := by
  induction d with
  | zero =>
    intro k i best most hi hk hR
    obtain ⟨k, rfl⟩ : ∃ m, k = m + 1 := ⟨k - 1, by omega⟩
    simp only [mandateref13_next.l0, scan]
    rw [if_neg (by omega)]
    show _ = R
    rcases hR k (by omega) with h | h
    · exact h
    · exact absurd rfl h
  | succ d ih =>
    intro k i best most hi hk hR
    obtain ⟨k, rfl⟩ : ∃ m, k = m + 1 := ⟨k - 1, by omega⟩
    have hR' : ∀ k' : Nat, 300000000 ≤ k' + d → mandateref13_next.l1 k' out have_ (-1) 0 a b hd_ body = R ∨ k ≠ k' + d + 1 := fun k' h => by
      rcases hR k' (by omega) with h1 | h1
      · exact .inl h1
      · exact .inr (by omega)
    have hib : i < body.length := by omega
    have hlen := hb.1
    have hargs := hb.2 i (by omega) (by omega)
    have hw := wrap_up (i := (i : Int)) (by omega) (by omega)
    simp only [mandateref13_next.l0, scan]
    rw [if_pos (by omega), named_f out i (by omega) (by omega)]
    simp only [Option.bind_some]
    by_cases hn : (i : Int) ∈ out
    · rw [if_pos (by simpa using hn), if_pos hn, hw]
      exact ih k (i + 1) best most (by omega) (by omega) hR'
    · rw [if_neg (by simpa using hn), if_neg hn, if_pos (by omega)]
      by_cases hk1 : (rd_T24 body (i : Int)).f0 = 1
      · rw [if_pos hk1, if_pos hk1, hw]
        split
        · exact ih k (i + 1) _ _ (by omega) (by omega) hR'
        · exact ih k (i + 1) best most (by omega) (by omega) hR'
      · rw [if_neg hk1, if_neg hk1, known_f have_ (by omega) _ _ _ hargs (by omega)]
        simp only [Option.bind_some]
        by_cases hf : knownP (rd_T24 body (i : Int)).f2 have_ = (rd_T24 body (i : Int)).f2.length
        · rw [if_pos (by omega), if_pos hf]
          rfl
        · rw [if_neg (by omega), if_neg hf, hw]
          exact ih k (i + 1) best most (by omega) (by omega) hR'

/-- The second loop: the best LPos. -/
theorem next_l1 {body : List S24} (hb : Small body) (a : Int) (b : ByteArray) (hd_ : List S50) (out : List Int) (ho : out.length ≤ 100) (have_ : List ByteArray) (hh : have_.length ≤ 200000000) (d : Nat) : ∀ (k i : Nat) (best most : Int), i + d = body.length → 250000000 + 2 * d < k → (scan body have_ out d i best most).1 = false →
    (best = -1 ∧ most = -1 ∨ 0 ≤ best ∧ best < body.length ∧ most = (knownP (rd_T24 body best).f2 have_ : Nat)) →
    mandateref13_next.l1 k out have_ best i a b hd_ body = some (scan body have_ out d i best most).2 := by
  induction d with
  | zero =>
    intro k i best most hi hk hs hm
    obtain ⟨k, rfl⟩ : ∃ m, k = m + 1 := ⟨k - 1, by omega⟩
    simp only [mandateref13_next.l1, scan]
    rw [if_neg (by omega)]
  | succ d ih =>
    intro k i best most hi hk hs hm
    obtain ⟨k, rfl⟩ : ∃ m, k = m + 2 := ⟨k - 2, by omega⟩
    have hib : i < body.length := by omega
    have hlen := hb.1
    have hargs := hb.2 i (by omega) (by omega)
    have hw := wrap_up (i := (i : Int)) (by omega) (by omega)
    rw [show k + 2 = (k + 1) + 1 from rfl]
    simp only [mandateref13_next.l1, scan] at hs ⊢
    rw [if_pos (by omega), named_f out i (by omega) (by omega)]
    simp only [Option.bind_some]
    by_cases hn : (i : Int) ∈ out
    · rw [if_pos hn] at hs
      rw [if_pos (by simpa using hn), if_pos hn]
      simp only [mandateref13_next.j2]
      rw [if_pos trivial, hw]
      exact ih k (i + 1) best most (by omega) (by omega) hs hm
    · rw [if_neg hn] at hs
      rw [if_neg (by simpa using hn), if_neg hn, if_pos (by omega)]
      by_cases hk1 : (rd_T24 body (i : Int)).f0 = 1
      · rw [if_pos hk1] at hs
        have he : ((rd_T24 body (i : Int)).f0 != 1) = false := by rw [hk1]; rfl
        rw [if_pos hk1, he]
        simp only [mandateref13_next.j2]
        rw [if_neg (by simp)]
        rcases hm with ⟨hm1, hm2⟩ | ⟨hm0, hm1, hm2⟩
        · rw [if_pos (by omega), hw]
          rw [if_pos (by omega)] at hs ⊢
          exact ih k (i + 1) i _ (by omega) (by omega) hs (.inr ⟨by omega, by omega, rfl⟩)
        · have hargs2 := hb.2 best hm0 hm1
          rw [if_neg (by omega), if_pos (by omega), if_pos (by omega), known_f have_ (by omega) _ _ _ hargs (by omega)]
          simp only [Option.bind_some]
          rw [if_pos hm0, if_pos hm1, known_f have_ (by omega) _ _ _ hargs2 (by omega)]
          simp only [Option.bind_some]
          rw [← hm2, hw]
          by_cases hg : ((knownP (rd_T24 body (i : Int)).f2 have_ : Nat) : Int) > most
          · rw [if_pos hg] at hs
            rw [if_pos hg, if_pos hg]
            exact ih k (i + 1) i _ (by omega) (by omega) hs (.inr ⟨by omega, by omega, rfl⟩)
          · rw [if_neg hg] at hs
            rw [if_neg hg, if_neg hg]
            exact ih k (i + 1) best most (by omega) (by omega) hs (.inr ⟨hm0, hm1, hm2⟩)
      · rw [if_neg hk1] at hs
        have he : ((rd_T24 body (i : Int)).f0 != 1) = true := by rw [bne_iff_ne]; exact hk1
        rw [if_neg hk1, he]
        simp only [mandateref13_next.j2]
        rw [if_pos trivial, hw]
        by_cases hf : knownP (rd_T24 body (i : Int)).f2 have_ = (rd_T24 body (i : Int)).f2.length
        · rw [if_pos hf] at hs
          simp at hs
        · rw [if_neg hf] at hs ⊢
          exact ih k (i + 1) best most (by omega) (by omega) hs hm

end Go.Proofs.Ytngamodmbgjajaa.PPlanOrders
