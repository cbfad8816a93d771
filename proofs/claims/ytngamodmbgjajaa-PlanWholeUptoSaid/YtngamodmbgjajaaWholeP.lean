/- The plain law of a plan: each literal once, none too early, none too late. No condition beyond those each theorem names. -/
import Derived.Test.YtngamodmbgjajaaPlanX
namespace Go.Proofs.Ytngamodmbgjajaa.PPlanOrders
open Go.RowKit Go.Proofs.YtngamodmbgjajaaW.PrintWords Go.Proofs.YtngamodmbgjajaaW.PrintLast Go.Proofs.YtngamodmbgjajaaW.PrintMore
set_option linter.unusedVariables false
set_option linter.unusedSimpArgs false

theorem mem_putS {l : List ByteArray} {s v : ByteArray} : v ∈ putS l s ↔ v ∈ l ∨ v = s := by
  unfold putS
  split
  · rename_i h
    exact ⟨fun hv => .inl hv, fun hv => hv.elim id (fun e => e ▸ h)⟩
  · simp
theorem mem_varsFrom {v : ByteArray} : ∀ (args : List S50) (out : List ByteArray), v ∈ varsFrom out args ↔ v ∈ out ∨ ∃ t ∈ args, t.f0.size ≠ 0 ∧ v = t.f0
  | [], out => by simp [varsFrom]
  | t :: r, out => by
    unfold varsFrom
    rw [mem_varsFrom r]
    by_cases h0 : t.f0.size = 0
    · rw [if_pos h0]
      simp only [List.mem_cons, exists_eq_or_imp]
      constructor
      · rintro (h | h)
        · exact .inl h
        · exact .inr (.inr h)
      · rintro (h | ⟨h, _⟩ | h)
        · exact .inl h
        · exact absurd h0 h
        · exact .inr h
    · rw [if_neg h0, mem_putS]
      simp only [List.mem_cons, exists_eq_or_imp]
      constructor
      · rintro ((h | h) | h)
        · exact .inl h
        · exact .inr (.inl ⟨h0, h⟩)
        · exact .inr (.inr h)
      · rintro (h | ⟨_, h⟩ | h)
        · exact .inl (.inl h)
        · exact .inl (.inr h)
        · exact .inr h
theorem mem_varsP {v : ByteArray} {args : List S50} : v ∈ varsP args ↔ ∃ t ∈ args, t.f0.size ≠ 0 ∧ v = t.f0 := by
  unfold varsP
  rw [mem_varsFrom]
  simp
theorem known_all {args : List S50} {have_ : List ByteArray} (h : knownP args have_ = args.length) : ∀ v ∈ varsP args, v ∈ have_ := by
  intro v hv
  obtain ⟨t, ht, h0, rfl⟩ := mem_varsP.1 hv
  have := List.countP_eq_length.1 h t ht
  unfold isKnown at this
  rw [decide_eq_false h0, Bool.false_or] at this
  exact of_decide_eq_true this
theorem known_not {args : List S50} {have_ : List ByteArray} (h : knownP args have_ ≠ args.length) : ∃ v ∈ varsP args, v ∉ have_ := by
  apply Classical.byContradiction
  intro hn
  apply h
  unfold knownP
  rw [List.countP_eq_length]
  intro t ht
  unfold isKnown
  by_cases h0 : t.f0.size = 0
  · simp [h0]
  · rw [decide_eq_false h0, Bool.false_or]
    refine decide_eq_true ?_
    apply Classical.byContradiction
    intro hm
    exact hn ⟨t.f0, mem_varsP.2 ⟨t, ht, h0, rfl⟩, hm⟩

theorem scan_known (body : List S24) (have_ : List ByteArray) (out : List Int) : ∀ (d i : Nat) (best most : Int), i + d = body.length → (scan body have_ out d i best most).1 = true → knownP (rd_T24 body (scan body have_ out d i best most).2).f2 have_ = (rd_T24 body (scan body have_ out d i best most).2).f2.length
  | 0, i, best, most, hi, h => by simp [scan] at h
  | d + 1, i, best, most, hi, h => by
    unfold scan at h ⊢
    split
    · rename_i h1; rw [if_pos h1] at h; exact scan_known body have_ out d (i + 1) best most (by omega) h
    · rename_i h1
      rw [if_neg h1] at h
      split
      · rename_i h2
        rw [if_pos h2] at h
        split
        · rename_i h3; rw [if_pos h3] at h; exact scan_known body have_ out d (i + 1) i _ (by omega) h
        · rename_i h3; rw [if_neg h3] at h; exact scan_known body have_ out d (i + 1) best most (by omega) h
      · rename_i h2
        rw [if_neg h2] at h
        split
        · rename_i h3; exact h3
        · rename_i h3; rw [if_neg h3] at h; exact scan_known body have_ out d (i + 1) best most (by omega) h
theorem scan_none (body : List S24) (have_ : List ByteArray) (out : List Int) : ∀ (d i : Nat) (best most : Int), (scan body have_ out d i best most).1 = false → ∀ j : Nat, i ≤ j → j < i + d → (j : Int) ∉ out → (rd_T24 body (j : Int)).f0 ≠ 1 → knownP (rd_T24 body (j : Int)).f2 have_ ≠ (rd_T24 body (j : Int)).f2.length
  | 0, i, best, most, h, j, h1, h2, _, _ => by omega
  | d + 1, i, best, most, h, j, hj1, hj2, hjo, hjk => by
    unfold scan at h
    have next : ∀ b m, (scan body have_ out d (i + 1) b m).1 = false → (i ≠ j → knownP (rd_T24 body (j : Int)).f2 have_ ≠ (rd_T24 body (j : Int)).f2.length) := fun b m h' hne => scan_none body have_ out d (i + 1) b m h' j (by omega) (by omega) hjo hjk
    by_cases hij : i = j
    · subst hij
      rw [if_neg hjo, if_neg hjk] at h
      intro he
      rw [if_pos he] at h
      simp at h
    · split at h
      · exact next _ _ h hij
      · split at h
        · split at h
          · exact next _ _ h hij
          · exact next _ _ h hij
        · split at h
          · simp at h
          · exact next _ _ h hij

/-- What holds of the literal x behind those of p. -/
def Fits (body : List S24) (p : List Int) (x : Int) : Prop :=
  0 ≤ x ∧ x < body.length ∧ x ∉ p ∧ ((rd_T24 body x).f0 ≠ 1 → ∀ v ∈ varsP (rd_T24 body x).f2, v ∈ boundP body p) ∧
  ((rd_T24 body x).f0 = 1 → p ≠ [] → ∀ j : Nat, j < body.length → (j : Int) ∉ p → (rd_T24 body (j : Int)).f0 ≠ 1 → ∃ v ∈ varsP (rd_T24 body (j : Int)).f2, v ∉ boundP body p)
def Chain (body : List S24) (l : List Int) : Prop := ∀ p x s, l = p ++ x :: s → Fits body p x
theorem Chain.nil (body : List S24) : Chain body [] := fun p x s h => by simp at h
theorem Chain.snoc {body : List S24} {l : List Int} {x : Int} (h : Chain body l) (hx : Fits body l x) : Chain body (l ++ [x]) := by
  intro p y s e
  rcases List.eq_nil_or_concat s with rfl | ⟨s', z, rfl⟩
  · obtain ⟨rfl, h2⟩ := List.append_inj' e rfl
    cases h2
    exact hx
  · rw [List.concat_eq_append, ← List.cons_append, ← List.append_assoc] at e
    obtain ⟨rfl, h2⟩ := List.append_inj' e rfl
    exact h p y s' rfl
theorem goesP_chain (body : List S24) : ∀ (d : Nat) (out : List Int) (have_ : List ByteArray), d + out.length = body.length → have_ = boundP body out → Chain body out → (goesP body d out have_).2 = true → Chain body (goesP body d out have_).1 ∧ (goesP body d out have_).1.length = body.length
  | 0, out, have_, hd, hh, hc, h => ⟨hc, by show out.length = _; omega⟩
  | d + 1, out, have_, hd, hh, hc, h => by
    have hin := scan_in body have_ out body.length 0 (-1) (-1) (by omega) (.inl rfl)
    have hkn := scan_known body have_ out body.length 0 (-1) (-1) (by omega)
    have hno := scan_none body have_ out body.length 0 (-1) (-1)
    unfold goesP at h ⊢
    obtain ⟨s, hs⟩ : ∃ s, s = scan body have_ out body.length 0 (-1) (-1) := ⟨_, rfl⟩
    rw [← hs] at hin hkn hno h ⊢
    clear hs
    obtain ⟨f, t⟩ := s
    cases f with
    | true =>
      have h1 := hin.1 rfl
      have h2 := hkn rfl
      dsimp only at h1 h2 h ⊢
      rw [if_pos rfl] at h ⊢
      refine goesP_chain body d (out ++ [t]) have_ (by simp; omega) (by rw [boundP_other h1.2.2.2]; exact hh) (hc.snoc ⟨h1.1, h1.2.1, h1.2.2.1, fun _ => ?_, fun e => absurd e h1.2.2.2⟩) h
      rw [← hh]
      exact known_all h2
    | false =>
      have h1 := hin.2 rfl
      have h2 := hno rfl
      dsimp only at h1 h ⊢
      rw [if_neg (c := false = true) (by simp)] at h ⊢
      by_cases hneg : t < 0
      · rw [if_pos hneg] at h
        simp at h
      · rw [if_neg hneg] at h ⊢
        have h3 : 0 ≤ t ∧ t < body.length ∧ t ∉ out ∧ (rd_T24 body t).f0 = 1 := by
          rcases h1 with h1 | h1
          · omega
          · exact h1
        refine goesP_chain body d (out ++ [t]) _ (by simp; omega) (by rw [boundP_lpos h3.1 h3.2.1 h3.2.2.2, hh]) (hc.snoc ⟨h3.1, h3.2.1, h3.2.2.1, fun e => absurd h3.2.2.2 e, fun _ _ j hj hjo hjk => ?_⟩) h
        rw [← hh]
        exact known_not (h2 j (by omega) (by omega) hjo hjk)
theorem goesP_false (body : List S24) : ∀ (d : Nat) (out : List Int) (have_ : List ByteArray), (goesP body d out have_).2 = false → (goesP body d out have_).1 = []
  | 0, out, have_, h => by simp [goesP] at h
  | d + 1, out, have_, h => by
    unfold goesP at h ⊢
    split
    · rename_i h1; rw [if_pos h1] at h; exact goesP_false body d _ _ h
    · rename_i h1
      rw [if_neg h1] at h
      split
      · rfl
      · rename_i h2; rw [if_neg h2] at h; exact goesP_false body d _ _ h
theorem planP_false {body : List S24} {out : List Int} (h : (planP body out).2 = false) : (planP body out).1 = [] := by
  unfold planP at h ⊢
  split
  · rename_i h1; rw [if_pos h1] at h; exact goesP_false _ _ _ _ h
  · rfl
theorem planP_chain {body : List S24} {out : List Int} (hl : out.length ≤ body.length) (hc : Chain body out) (h : (planP body out).2 = true) : Chain body (planP body out).1 ∧ (planP body out).1.length = body.length := by
  unfold planP at h ⊢
  split
  · rename_i h1
    rw [if_pos h1] at h
    exact goesP_chain body (body.length - out.length) out _ (by omega) rfl hc h
  · rename_i h1
    rw [if_neg h1] at h
    simp at h
theorem fromP_chain {body : List S24} {k : Int} (h : (fromP body k).2 = true) : Chain body (fromP body k).1 ∧ (fromP body k).1.length = body.length := by
  unfold fromP at h ⊢
  split
  · rename_i h1
    rw [if_pos h1] at h
    refine planP_chain (by simp; omega) ?_ h
    exact (Chain.nil body).snoc ⟨h1.1, h1.2.1, by simp, fun e => absurd h1.2.2 e, fun _ e => absurd rfl e⟩
  · rename_i h1
    rw [if_neg h1] at h
    simp at h
/-- The i-th literal of a chain. -/
theorem Chain.at {body : List S24} {l : List Int} (h : Chain body l) {i : Nat} (hi : i < l.length) : Fits body (l.take i) (rd l (i : Int)) := by
  have : rd l (i : Int) = l[i] := by simp [rd, hi]
  rw [this]
  refine h (l.take i) l[i] (l.drop (i + 1)) ?_
  rw [← List.drop_eq_getElem_cons hi, List.take_append_drop]

/-- Which literals have been seen. -/
def seenL (n : Nat) (p : List Int) : List Bool := (List.range n).map fun j : Nat => decide (((j : Nat) : Int) ∈ p)
theorem seenL_len (n : Nat) (p : List Int) : (seenL n p).length = n := by simp [seenL]
theorem seenL_get {n : Nat} {p : List Int} {j : Nat} (hj : j < n) : (seenL n p)[j]? = some (decide ((j : Int) ∈ p)) := by simp [seenL, hj]
theorem seenL_nil (n : Nat) : seenL n [] = List.replicate n false := by
  apply List.ext_getElem?
  intro j
  by_cases hj : j < n
  · rw [seenL_get hj, List.getElem?_replicate, if_pos hj]; simp
  · rw [List.getElem?_eq_none (by rw [seenL_len]; omega), List.getElem?_eq_none (by simp; omega)]
theorem seenL_set {n : Nat} {p : List Int} {x : Int} (h0 : 0 ≤ x) (h1 : x < n) : (seenL n p).set x.toNat true = seenL n (p ++ [x]) := by
  apply List.ext_getElem?
  intro j
  by_cases hj : j < n
  · rw [seenL_get hj, List.getElem?_set]
    by_cases hx : x.toNat = j
    · rw [if_pos hx, if_pos (by rw [seenL_len]; omega)]
      have : (j : Int) = x := by omega
      rw [this]
      simp
    · rw [if_neg hx, seenL_get hj]
      have : (j : Int) ≠ x := by omega
      simp [this]
  · rw [List.getElem?_eq_none (by rw [List.length_set, seenL_len]; omega), List.getElem?_eq_none (by rw [seenL_len]; omega)]

end Go.Proofs.Ytngamodmbgjajaa.PPlanOrders
