/- May a value be? What value.Good and the reference's Good answer, as one plain function. No condition beyond those each theorem names. -/
import Derived.Test.YtjkicljcmognhaaLeafB
namespace Go.Proofs.Ytjkicljcmognhaa.PInternPlays
open Go.RowKit Go.Proofs.YtjkicljcmognhaaW.PrintWords Go.Proofs.YtjkicljcmognhaaW.PrintLast Go.Proofs.YtjkicljcmognhaaW.PrintMore
set_option linter.unusedVariables false
set_option linter.unusedSimpArgs false

/-- May the byte c stand at place i of a name? -/
def okC (c i : Int) : Bool := decide ((97 ≤ c ∧ c ≤ 122) ∨ (0 < i ∧ ((48 ≤ c ∧ c ≤ 57) ∨ c = 95)))
/-- .. the d bytes from place i on? -/
def okFrom (s : ByteArray) : Nat → Int → Bool
  | 0, _ => true
  | d + 1, i => okC (bt s i) i && okFrom s d (i + 1)
theorem okC_yes {c i : Int} (h : (97 ≤ c ∧ c ≤ 122) ∨ (0 < i ∧ ((48 ≤ c ∧ c ≤ 57) ∨ c = 95))) : okC c i = true := decide_eq_true h
theorem okC_no {c i : Int} (h : ¬ ((97 ≤ c ∧ c ≤ 122) ∨ (0 < i ∧ ((48 ≤ c ∧ c ≤ 57) ∨ c = 95)))) : okC c i = false := decide_eq_false h

theorem wrap_small {i : Int} (h0 : 0 ≤ i) (h : i ≤ 1000) : wrap64 (i + 1) = i + 1 := by
  unfold wrap64
  omega

theorem value_l0 (s : ByteArray) (hs : s.size ≤ 16) (d : Nat) : ∀ (k : Nat) (i : Int), 0 ≤ i → (s.size : Int) - i = d → d < k →
    value_Name.l0 k s (s.size : Int) i = some (okFrom s d i && (s.toList != [])) := by
  induction d with
  | zero =>
    intro k i h0 hd hk
    obtain ⟨k, rfl⟩ : ∃ m, k = m + 1 := ⟨k - 1, by omega⟩
    simp only [value_Name.l0]
    rw [if_neg (by omega)]
    simp [okFrom]
  | succ d ih =>
    intro k i h0 hd hk
    obtain ⟨k, rfl⟩ : ∃ m, k = m + 1 := ⟨k - 1, by omega⟩
    have hn := ih k (i + 1) (by omega) (by omega) (by omega)
    simp only [value_Name.l0]
    rw [if_pos (by omega), if_pos h0, if_pos (by omega), wrap_small h0 (by omega), hn]
    simp only [okFrom]
    generalize bt s i = c
    repeat' split
    all_goals first
      | (rw [okC_yes (by omega)]; rfl)
      | (rw [okC_no (by omega)]; rfl)

theorem ref_l0 (s : ByteArray) (hs : s.size ≤ 16) (d : Nat) : ∀ (k : Nat) (i : Int), 0 ≤ i → (s.size : Int) - i = d → d < k →
    mandateref01_Name.l0 k s i = some (okFrom s d i) := by
  induction d with
  | zero =>
    intro k i h0 hd hk
    obtain ⟨k, rfl⟩ : ∃ m, k = m + 1 := ⟨k - 1, by omega⟩
    simp only [mandateref01_Name.l0]
    rw [if_neg (by omega)]
    simp [okFrom]
  | succ d ih =>
    intro k i h0 hd hk
    obtain ⟨k, rfl⟩ : ∃ m, k = m + 1 := ⟨k - 1, by omega⟩
    have hn := ih k (i + 1) (by omega) (by omega) (by omega)
    simp only [mandateref01_Name.l0]
    rw [if_pos (by omega), if_pos h0, wrap_small h0 (by omega), hn]
    simp only [okFrom]
    generalize bt s i = c
    repeat' split
    all_goals first
      | (rw [okC_yes (by omega)]; rfl)
      | (rw [okC_no (by omega)]; rfl)

/-- Is a text a name? -/
def nameV (s : ByteArray) : Bool := !(s.toList == [110, 111, 116]) && !(s.toList == [115, 97, 121, 115]) && decide (s.size ≤ 16) && decide (0 < s.size) && okFrom s s.size 0
/-- May a value be? -/
def goodV (x : S31) : Bool := decide (x.f0.size = 0) || (decide (x.f1 = 0) && nameV x.f0)

theorem toList_nil (s : ByteArray) : s.toList = [] ↔ s.size = 0 := by
  rw [ByteArray.toList_eq]
  obtain ⟨⟨x⟩⟩ := s
  show x = [] ↔ x.length = 0
  simp
theorem size_toList (s : ByteArray) : s.toList.length = s.size := by
  rw [ByteArray.toList_eq]
  obtain ⟨⟨x⟩⟩ := s
  rfl

theorem value_name (s : ByteArray) : value_Name.f 20 s = some (nameV s) := by
  unfold value_Name.f nameV
  by_cases h1 : s.toList = [110, 111, 116]
  · rw [if_pos h1]; simp [value_Name.j0, h1]
  · rw [if_neg h1]
    by_cases h2 : s.toList = [115, 97, 121, 115]
    · rw [if_pos h2]; simp [value_Name.j0, h2]
    · rw [if_neg h2]
      by_cases h3 : (s.size : Int) > 16
      · rw [decide_eq_true h3]
        simp only [value_Name.j0, if_true]
        rw [decide_eq_false (show ¬ s.size ≤ 16 by omega)]
        simp
      · rw [decide_eq_false h3]
        simp only [value_Name.j0]
        rw [if_neg (by simp), value_l0 s (by omega) s.size 19 0 (by omega) (by omega) (by omega)]
        rw [decide_eq_true (show s.size ≤ 16 by omega)]
        have e1 : (s.toList == [110, 111, 116]) = false := by simpa using h1
        have e2 : (s.toList == [115, 97, 121, 115]) = false := by simpa using h2
        rw [e1, e2]
        have e3 : (s.toList != []) = decide (0 < s.size) := by
          rw [Bool.eq_iff_iff]
          simp only [bne_iff_ne, ne_eq, decide_eq_true_eq, toList_nil]
          omega
        rw [e3]
        simp [Bool.and_comm]

theorem ref_name (s : ByteArray) : mandateref01_Name.f 20 s = some (nameV s) := by
  unfold mandateref01_Name.f nameV
  by_cases h0 : (s.size : Int) = 0
  · rw [if_pos h0]
    have : decide (0 < s.size) = false := decide_eq_false (by omega)
    simp [mandateref01_Name.j0, this]
  · rw [if_neg h0]
    by_cases h3 : (s.size : Int) > 16
    · rw [if_pos h3]
      simp only [mandateref01_Name.j0, if_true]
      rw [decide_eq_false (show ¬ s.size ≤ 16 by omega)]
      simp
    · rw [if_neg h3]
      by_cases h1 : s.toList = [110, 111, 116]
      · rw [if_pos h1]; simp [mandateref01_Name.j0, h1]
      · rw [if_neg h1]
        by_cases h2 : s.toList = [115, 97, 121, 115]
        · simp [mandateref01_Name.j0, h2]
        · have e1 : (s.toList == [110, 111, 116]) = false := by simpa using h1
          have e2 : (s.toList == [115, 97, 121, 115]) = false := by simpa using h2
          simp only [mandateref01_Name.j0]
          rw [e2, if_neg (by simp), ref_l0 s (by omega) s.size 19 0 (by omega) (by omega) (by omega)]
          rw [decide_eq_true (show s.size ≤ 16 by omega), decide_eq_true (show 0 < s.size by omega), e1]
          simp

theorem value_good (x : S31) : value_Good.f 20 x.f0 x.f1 = some (goodV x) := by
  unfold value_Good.f goodV
  by_cases h : x.f0.toList = []
  · rw [if_pos h, decide_eq_true ((toList_nil _).1 h)]; rfl
  · rw [if_neg h, decide_eq_false (fun e => h ((toList_nil _).2 e))]
    by_cases h1 : x.f1 = 0
    · rw [if_pos h1, value_name]; simp [h1]
    · rw [if_neg h1]; simp [h1]
theorem ref_good (x : S31) : mandateref01_Good.f 20 x.f0 x.f1 = some (goodV x) := by
  unfold mandateref01_Good.f goodV
  by_cases h : (x.f0.size : Int) = 0
  · rw [if_pos h, decide_eq_true (by omega)]; rfl
  · rw [if_neg h, decide_eq_false (by omega), ref_name]
    simp only [Option.bind_some, Bool.false_or]
    by_cases hn : nameV x.f0 = true
    · rw [if_pos hn, hn]
      have : (x.f1 == 0) = decide (x.f1 = 0) := rfl
      simp [this]
    · rw [if_neg hn]
      simp at hn
      simp [hn]
theorem good_short {x : S31} (h : goodV x = true) : x.f0.size ≤ 16 := by
  by_cases hs : x.f0.size ≤ 16
  · exact hs
  · unfold goodV nameV at h
    rw [decide_eq_false (show ¬ x.f0.size = 0 by omega), decide_eq_false hs] at h
    simp at h

/-- value.Good, as the machine calls it. -/
theorem Good_calls (x : S31) (w : World) : Calls Try.prog 22 #[.agg #[.string x.f0, .int .i64 x.f1]] w fun e w' => e = .returned (.bool (goodV x)) ∧ Below w.heap.size w w' := value_Good.calls 20 x.f0 x.f1 _ w (value_good x)

end Go.Proofs.Ytjkicljcmognhaa.PInternPlays
