/- The plan's own way through the literals, in plain lists, and what the reference's Bound computes. No condition beyond those each theorem names. -/
import Derived.Test.YtngamodmbgjajaaPlanQ
namespace Go.Proofs.Ytngamodmbgjajaa.PPlanOrders
open Go.RowKit Go.Proofs.YtngamodmbgjajaaW.PrintWords Go.Proofs.YtngamodmbgjajaaW.PrintLast Go.Proofs.YtngamodmbgjajaaW.PrintMore
set_option linter.unusedVariables false
set_option linter.unusedSimpArgs false

/-- One way through the literals: (true, k): k is taken at once; (false, b): the best LPos, or -1. -/
def scan (body : List S24) (have_ : List ByteArray) (out : List Int) : Nat → Nat → Int → Int → Bool × Int
  | 0, _, best, _ => (false, best)
  | d + 1, i, best, most =>
    if (i : Int) ∈ out then scan body have_ out d (i + 1) best most
    else if (rd_T24 body (i : Int)).f0 = 1 then
      (if ((knownP (rd_T24 body (i : Int)).f2 have_ : Nat) : Int) > most then scan body have_ out d (i + 1) i (knownP (rd_T24 body (i : Int)).f2 have_ : Nat) else scan body have_ out d (i + 1) best most)
    else if knownP (rd_T24 body (i : Int)).f2 have_ = (rd_T24 body (i : Int)).f2.length then (true, i) else scan body have_ out d (i + 1) best most
/-- The plan that goes on. -/
def goesP (body : List S24) : Nat → List Int → List ByteArray → List Int × Bool
  | 0, out, _ => (out, true)
  | d + 1, out, have_ =>
    if (scan body have_ out body.length 0 (-1) (-1)).1 = true then goesP body d (out ++ [(scan body have_ out body.length 0 (-1) (-1)).2]) have_
    else if (scan body have_ out body.length 0 (-1) (-1)).2 < 0 then ([], false)
    else goesP body d (out ++ [(scan body have_ out body.length 0 (-1) (-1)).2]) (putsS have_ (varsP (rd_T24 body (scan body have_ out body.length 0 (-1) (-1)).2).f2))
def kindsOk (body : List S24) : Bool := body.all fun f => decide (1 ≤ f.f0 ∧ f.f0 ≤ 4)
def planP (body : List S24) (out : List Int) : List Int × Bool := if kindsOk body = true then goesP body (body.length - out.length) out (boundP body out) else ([], false)

/-- What a way through tells. -/
theorem scan_in (body : List S24) (have_ : List ByteArray) (out : List Int) : ∀ (d i : Nat) (best most : Int), i + d = body.length → (best = -1 ∨ 0 ≤ best ∧ best < body.length ∧ best ∉ out ∧ (rd_T24 body best).f0 = 1) →
    ((scan body have_ out d i best most).1 = true → 0 ≤ (scan body have_ out d i best most).2 ∧ (scan body have_ out d i best most).2 < body.length ∧ (scan body have_ out d i best most).2 ∉ out ∧ (rd_T24 body (scan body have_ out d i best most).2).f0 ≠ 1) ∧
    ((scan body have_ out d i best most).1 = false → (scan body have_ out d i best most).2 = -1 ∨ 0 ≤ (scan body have_ out d i best most).2 ∧ (scan body have_ out d i best most).2 < body.length ∧ (scan body have_ out d i best most).2 ∉ out ∧ (rd_T24 body (scan body have_ out d i best most).2).f0 = 1)
  | 0, i, best, most, hi, hb => ⟨fun h => by simp [scan] at h, fun _ => hb⟩
  | d + 1, i, best, most, hi, hb => by
    unfold scan
    split
    · exact scan_in body have_ out d (i + 1) best most (by omega) hb
    · rename_i hno
      split
      · rename_i hk
        split
        · exact scan_in body have_ out d (i + 1) i _ (by omega) (.inr ⟨by omega, by omega, hno, hk⟩)
        · exact scan_in body have_ out d (i + 1) best most (by omega) hb
      · rename_i hk
        split
        · exact ⟨fun _ => ⟨by show (0 : Int) ≤ i; omega, by show (i : Int) < _; omega, hno, hk⟩, fun h => by simp at h⟩
        · exact scan_in body have_ out d (i + 1) best most (by omega) hb

theorem boundFrom_append (body : List S24) : ∀ (a b : List Int) (out : List ByteArray), boundFrom body out (a ++ b) = boundFrom body (boundFrom body out a) b
  | [], b, out => rfl
  | k :: r, b, out => by
    simp only [List.cons_append, boundFrom]
    exact boundFrom_append body r b _
theorem boundP_other {body : List S24} {l : List Int} {k : Int} (h : (rd_T24 body k).f0 ≠ 1) : boundP body (l ++ [k]) = boundP body l := by
  unfold boundP
  rw [boundFrom_append]
  simp only [boundFrom]
  rw [if_neg (fun h' => h h'.2.2)]
theorem boundP_lpos {body : List S24} {l : List Int} {k : Int} (h0 : 0 ≤ k) (h1 : k < body.length) (h : (rd_T24 body k).f0 = 1) : boundP body (l ++ [k]) = putsS (boundP body l) (varsP (rd_T24 body k).f2) := by
  unfold boundP
  rw [boundFrom_append]
  simp only [boundFrom]
  rw [if_pos ⟨h0, h1, h⟩]
theorem boundP_len {body : List S24} (hb : Small body) {l : List Int} (hl : l.length ≤ 100) : (boundP body l).length ≤ 104857600 := by
  have := boundFrom_len (M := 1048576) hb.2 l []
  unfold boundP
  simp at this
  omega

/-- The reference's Bound. -/
theorem rbound_l1 {body : List S24} (a : Int) (b : ByteArray) (hd_ : List S50) (l : List Int) (i : Int) (names : List ByteArray) (hn : names.length ≤ 1048576) (r : Option (List ByteArray)) (d : Nat) : ∀ (k j : Nat) (out : List ByteArray), names.length - j = d → j ≤ names.length → out.length + d ≤ 900000000 → 
    (∀ k' : Nat, k ≤ k' + d + 1 → k' < k → mandateref13_Bound.l0 k' l (putsS out (names.drop j)) (wrap64 (i + 1)) a b hd_ body = r) → d + (out.length + d) + 10 < k → mandateref13_Bound.l1 k l out i names j a b hd_ body = r := by
  induction d with
  | zero =>
    intro k j out hd hj ho hr hk
    obtain ⟨k, rfl⟩ : ∃ m, k = m + 1 := ⟨k - 1, by omega⟩
    simp only [mandateref13_Bound.l1]
    rw [if_neg (by omega)]
    have := hr k (by omega) (by omega)
    rw [List.drop_of_length_le (by omega)] at this
    exact this
  | succ d ih =>
    intro k j out hd hj ho hr hk
    obtain ⟨k, rfl⟩ : ∃ m, k = m + 1 := ⟨k - 1, by omega⟩
    simp only [mandateref13_Bound.l1]
    have hlt : j < names.length := by omega
    have hrd : rdOf ByteArray.empty names (j : Int) = names[j] := by simp [rdOf, hlt]
    rw [if_pos (by omega), if_pos (by omega), hrd, rput_f out names[j] (by omega) (by omega)]
    simp only [Option.bind_some]
    rw [wrap_up (by omega) (by omega)]
    have h1 := putS_len out names[j]
    refine ih k (j + 1) (putS out names[j]) (by omega) (by omega) (by omega) (fun k' h2 h3 => ?_) (by omega)
    have := hr k' (by omega) (by omega)
    rw [List.drop_eq_getElem_cons hlt] at this
    exact this
/-- What d literals may cost, each of at most M arguments. -/
def room (M : Nat) : Nat → Nat
  | 0 => 0
  | d + 1 => room M d + M
theorem room_le {M C n : Nat} (hM : M ≤ C) : ∀ d, d ≤ n → room M d ≤ n * C
  | 0, _ => Nat.zero_le _
  | d + 1, h => by
    have h1 : room M d ≤ d * C := room_le hM d (Nat.le_refl d)
    have h2 : (d + 1) * C ≤ n * C := Nat.mul_le_mul_right C h
    rw [Nat.add_mul, Nat.one_mul] at h2
    show room M d + M ≤ n * C
    omega
def cost (M : Nat) : Nat → Nat
  | 0 => 0
  | d + 1 => cost M d + (2 * M + 4)
theorem cost_le {M C n : Nat} (hM : 2 * M + 4 ≤ C) : ∀ d, d ≤ n → cost M d ≤ n * C
  | 0, _ => Nat.zero_le _
  | d + 1, h => by
    have h1 : cost M d ≤ d * C := cost_le hM d (Nat.le_refl d)
    have h2 : (d + 1) * C ≤ n * C := Nat.mul_le_mul_right C h
    rw [Nat.add_mul, Nat.one_mul] at h2
    show cost M d + (2 * M + 4) ≤ n * C
    omega
theorem rbound_l0 {body : List S24} {M F : Nat} (hM : M ≤ 1048576) (hF : 4000000 ≤ F) (hb : ∀ k : Int, 0 ≤ k → k < body.length → (rd_T24 body k).f2.length ≤ M) (a : Int) (b : ByteArray) (hd_ : List S50) (l : List Int) (hl : l.length ≤ 1000) (d : Nat) : ∀ (k i : Nat) (out : List ByteArray), l.length - i = d → i ≤ l.length → out.length + room M d ≤ 200000000 → cost M d + (out.length + room M d) + F < k →
    mandateref13_Bound.l0 k l out i a b hd_ body = some (boundFrom body out (l.drop i)) := by
  induction d with
  | zero =>
    intro k i out hd hi ho hk
    obtain ⟨k, rfl⟩ : ∃ m, k = m + 1 := ⟨k - 1, by omega⟩
    simp only [mandateref13_Bound.l0]
    rw [if_neg (by omega), List.drop_of_length_le (by omega)]
    rfl
  | succ d ih =>
    intro k i out hd hi ho1 hk1
    simp only [room, cost] at ho1 hk1
    obtain ⟨X, hX⟩ : ∃ X, X = room M d := ⟨_, rfl⟩
    obtain ⟨Y, hY⟩ : ∃ Y, Y = cost M d := ⟨_, rfl⟩
    rw [← hX] at ho1 hk1
    rw [← hY] at hk1
    have HX := Aside0.mk hX
    have HY := Aside0.mk hY
    clear hX hY
    obtain ⟨k, rfl⟩ : ∃ m, k = m + 2 := ⟨k - 2, by omega⟩
    have hlt : i < l.length := by omega
    have hr : rd l (i : Int) = l[i] := by simp [rd, hlt]
    obtain ⟨n, hn⟩ : ∃ n, n = l[i] := ⟨_, rfl⟩
    have hdr : l.drop i = n :: l.drop (i + 1) := by rw [hn]; exact List.drop_eq_getElem_cons hlt
    rw [show k + 2 = (k + 1) + 1 from rfl]
    simp only [mandateref13_Bound.l0]
    rw [if_pos (by omega), if_pos (by omega), hr, ← hn, hdr]
    unfold boundFrom
    have hil : i ≤ 1000 := Nat.le_trans hi hl
    have hw : wrap64 ((i : Int) + 1) = (i : Int) + 1 := by clear ho1 hk1 ih; exact wrap_up (by omega) (by omega)
    have e1 : l.length - (i + 1) = d := by clear ho1 hk1 ih; omega
    have hstep : ∀ (k' : Nat) (o : List ByteArray), o.length ≤ out.length + M → Y + (out.length + M + X) + F < k' → mandateref13_Bound.l0 k' l o (wrap64 ((i : Int) + 1)) a b hd_ body = some (boundFrom body o (l.drop (i + 1))) := fun k' o h hk' => by
      rw [hw]
      exact ih k' (i + 1) o e1 hlt (by rw [← HX.out]; clear HX HY ih hk1; omega) (by rw [← HX.out, ← HY.out]; clear HX HY ih hk1; omega)
    clear ih HX HY
    have htrue : mandateref13_Bound.j1 (k + 1) l out i true a b hd_ body = some (boundFrom body out (l.drop (i + 1))) := by
      simp only [mandateref13_Bound.j1]
      rw [if_pos trivial]
      exact hstep k out (by omega) (by omega)
    have HK := Aside0.mk hk1
    have HO := Aside0.mk ho1
    have HF := Aside0.mk hF
    have HM := Aside0.mk hM
    clear hk1 ho1 hF hM hi hd e1
    by_cases h0 : n < 0
    · rw [if_pos h0, if_neg (fun h => by omega)]
      exact htrue
    · rw [if_neg h0]
      by_cases h1 : n ≥ (body.length : Int)
      · rw [if_pos h1, if_neg (fun h => by omega)]
        exact htrue
      · rw [if_neg h1, if_pos (by omega), if_pos (by omega)]
        by_cases h2 : (rd_T24 body n).f0 = 1
        · have he : ((rd_T24 body n).f0 != 1) = false := by rw [h2]; rfl
          rw [he, if_pos ⟨by omega, by omega, h2⟩]
          simp only [mandateref13_Bound.j1]
          rw [if_neg (by simp), if_pos (by omega), if_pos (by omega), hr, ← hn, if_pos (by omega), if_pos (by omega)]
          have hs := hb n (by omega) (by omega)
          have hvl := varsP_len (rd_T24 body n).f2
          have hvm : (varsP (rd_T24 body n).f2).length ≤ M := Nat.le_trans hvl hs
          have hm2 : (rd_T24 body n).f2.length ≤ 1048576 := Nat.le_trans hs HM.out
          have hk2 : 3000000 < k := by have := HK.out; have := HF.out; omega
          rw [rvars_f _ _ _ hm2 hk2]
          simp only [Option.bind_some]
          refine rbound_l1 a b hd_ l i (varsP (rd_T24 body n).f2) (Nat.le_trans hvl hm2) _ (varsP (rd_T24 body n).f2).length k 0 out (by omega) (by omega) (by have := HO.out; omega) (fun k' h3 h4 => ?_) (by have := HK.out; have := HF.out; omega)
          rw [List.drop_zero]
          refine hstep k' (putsS out (varsP (rd_T24 body n).f2)) ?_ (by have := HK.out; omega)
          have := putsS_len (varsP (rd_T24 body n).f2) out
          omega
        · have he : ((rd_T24 body n).f0 != 1) = true := by rw [bne_iff_ne]; exact h2
          rw [he, if_neg (fun h => h2 h.2.2)]
          exact htrue
theorem rbound_f {body : List S24} (hb : Small body) (a : Int) (b : ByteArray) (hd_ : List S50) (l : List Int) (hl : l.length ≤ 100) {k : Nat} (hk : 400000000 ≤ k) : mandateref13_Bound.f k a b hd_ body l = some (boundP body l) := by
  unfold mandateref13_Bound.f
  have h1 : room 1048576 l.length ≤ 104857600 := room_le (n := 100) (Nat.le_refl _) _ hl
  have h2 : cost 1048576 l.length ≤ 209715600 := cost_le (n := 100) (C := 2097156) (by decide) _ hl
  have := rbound_l0 (M := 1048576) (F := 4000000) (Nat.le_refl _) (Nat.le_refl _) hb.2 a b hd_ l (by omega) l.length k 0 [] (by omega) (by omega) (by simp; omega) (by simp; omega)
  simpa [boundP] using this

end Go.Proofs.Ytngamodmbgjajaa.PPlanOrders
