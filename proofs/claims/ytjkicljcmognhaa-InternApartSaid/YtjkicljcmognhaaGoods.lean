/- May a value be? What value.Good and the reference's Good answer, as one plain function. No condition beyond those each theorem names. -/
import Derived.Test.YtjkicljcmognhaaPInternPlaysx1
import Derived.Test.YtjkicljcmognhaaPInternPlaysx3
namespace Go.Proofs.Ytjkicljcmognhaa.PInternPlays
open Go.RowKit Go.Proofs.YtjkicljcmognhaaW.PrintWords Go.Proofs.YtjkicljcmognhaaW.PrintLast Go.Proofs.YtjkicljcmognhaaW.PrintMore
set_option linter.unusedVariables false
set_option linter.unusedSimpArgs false

/-- May the byte c stand at place i of a name? -/
def okC (c i : Int) : Bool := decide ((97 ≤ c ∧ c ≤ 122) ∨ (0 < i ∧ ((48 ≤ c ∧ c ≤ 57) ∨ c = 95)))
/-- .. the d bytes from place i on? -/
def okFrom (s : ByteArray) : Nat → Int → Bool
  | 0, _ => true
  | d + 1, i => okC (bt s i) i && okFrom s d (i + 1)
theorem okC_yes {c i : Int} (h : (97 ≤ c ∧ c ≤ 122) ∨ (0 < i ∧ ((48 ≤ c ∧ c ≤ 57) ∨ c = 95))) : okC c i = true := decide_eq_true h
theorem okC_no {c i : Int} (h : ¬ ((97 ≤ c ∧ c ≤ 122) ∨ (0 < i ∧ ((48 ≤ c ∧ c ≤ 57) ∨ c = 95)))) : okC c i = false := decide_eq_false h

theorem wrap_small {i : Int} (h0 : 0 ≤ i) (h : i ≤ 1000) : wrap64 (i + 1) = i + 1 := by
  unfold wrap64
  omega

theorem ref_l0 (s : ByteArray) (hs : s.size ≤ 16) (d : Nat) : ∀ (k : Nat) (i : Int), 0 ≤ i → (s.size : Int) - i = d → d < k →
    mandateref01_Name.l0 k s i = some (okFrom s d i) := by
  induction d with
  | zero =>
    intro k i h0 hd hk
    obtain ⟨k, rfl⟩ : ∃ m, k = m + 1 := ⟨k - 1, by omega⟩
    simp only [mandateref01_Name.l0]
    rw [if_neg (by omega)]
    simp [okFrom]
  | succ d ih =>
    intro k i h0 hd hk
    obtain ⟨k, rfl⟩ : ∃ m, k = m + 1 := ⟨k - 1, by omega⟩
    have hn := ih k (i + 1) (by omega) (by omega) (by omega)
    simp only [mandateref01_Name.l0]
    rw [if_pos (by omega), if_pos h0, wrap_small h0 (by omega), hn]
    simp only [okFrom]
    generalize bt s i = c
    repeat' split
    all_goals first
      | (rw [okC_yes (by omega)]; rfl)
      | (rw [okC_no (by omega)]; rfl)

/-- Is a text a name? -/
def nameV (s : ByteArray) : Bool := !(s.toList == [110, 111, 116]) && !(s.toList == [115, 97, 121, 115]) && decide (s.size ≤ 16) && decide (0 < s.size) && okFrom s s.size 0
/-- May a value be? -/
def goodV (x : S31) : Bool := decide (x.f0.size = 0) || (decide (x.f1 = 0) && nameV x.f0)

theorem toList_nil (s : ByteArray) : s.toList = [] ↔ s.size = 0 := by
  rw [ByteArray.toList_eq]
  obtain ⟨⟨x⟩⟩ := s
  show x = [] ↔ x.length = 0
  simp
theorem size_toList (s : ByteArray) : s.toList.length = s.size := by
  rw [ByteArray.toList_eq]
  obtain ⟨⟨x⟩⟩ := s
  rfl

theorem ref_name (s : ByteArray) : mandateref01_Name.f 20 s = some (nameV s) := by
  unfold mandateref01_Name.f nameV
  by_cases h0 : (s.size : Int) = 0
  · rw [if_pos h0]
    have : decide (0 < s.size) = false := decide_eq_false (by omega)
    simp [mandateref01_Name.j0, this]
  · rw [if_neg h0]
    by_cases h3 : (s.size : Int) > 16
    · rw [if_pos h3]
      simp only [mandateref01_Name.j0, if_true]
      rw [decide_eq_false (show ¬ s.size ≤ 16 by omega)]
      simp
    · rw [if_neg h3]
      by_cases h1 : s.toList = [110, 111, 116]
      · rw [if_pos h1]; simp [mandateref01_Name.j0, h1]
      · rw [if_neg h1]
        by_cases h2 : s.toList = [115, 97, 121, 115]
        · simp [mandateref01_Name.j0, h2]
        · have e1 : (s.toList == [110, 111, 116]) = false := by simpa using h1
          have e2 : (s.toList == [115, 97, 121, 115]) = false := by simpa using h2
          simp only [mandateref01_Name.j0]
          rw [e2, if_neg (by simp), ref_l0 s (by omega) s.size 19 0 (by omega) (by omega) (by omega)]
          rw [decide_eq_true (show s.size ≤ 16 by omega), decide_eq_true (show 0 < s.size by omega), e1]
          simp

theorem ref_good (x : S31) : mandateref01_Good.f 20 x.f0 x.f1 = some (goodV x) := by
  unfold mandateref01_Good.f goodV
  by_cases h : (x.f0.size : Int) = 0
  · rw [if_pos h, decide_eq_true (by omega)]; rfl
  · rw [if_neg h, decide_eq_false (by omega), ref_name]
    simp only [Option.bind_some, Bool.false_or]
    by_cases hn : nameV x.f0 = true
    · rw [if_pos hn, hn]
      have : (x.f1 == 0) = decide (x.f1 = 0) := rfl
      simp [this]
    · rw [if_neg hn]
      simp at hn
      simp [hn]
theorem good_short {x : S31} (h : goodV x = true) : x.f0.size ≤ 16 := by
  by_cases hs : x.f0.size ≤ 16
  · exact hs
  · unfold goodV nameV at h
    rw [decide_eq_false (show ¬ x.f0.size = 0 by omega), decide_eq_false hs] at h
    simp at h

theorem okFrom_step (s : ByteArray) {i : Nat} (hi : i < s.size) : okFrom s (s.size - i) i = (okC (bt s i) i && okFrom s (s.size - (i + 1)) (i + 1 : Nat)) := by
  rw [show s.size - i = (s.size - (i + 1)) + 1 by omega, okFrom]
  rfl
theorem nameV_of {s : ByteArray} (h1 : ¬ s.toList = [110, 111, 116]) (h2 : ¬ s.toList = [115, 97, 121, 115]) (h3 : s.size ≤ 16) : nameV s = (decide (0 < s.size) && okFrom s s.size 0) := by
  unfold nameV
  have e1 : (s.toList == [110, 111, 116]) = false := by simpa using h1
  have e2 : (s.toList == [115, 97, 121, 115]) = false := by simpa using h2
  rw [e1, e2, decide_eq_true h3]
  simp
theorem nameV_long {s : ByteArray} (h : s.toList = [110, 111, 116] ∨ s.toList = [115, 97, 121, 115] ∨ 16 < s.size) : nameV s = false := by
  unfold nameV
  rcases h with h | h | h
  · simp [h]
  · simp [h]
  · rw [decide_eq_false (show ¬ s.size ≤ 16 by omega)]; simp

set_option maxHeartbeats 4000000 in
set_option maxRecDepth 100000 in
/-- value.Name. -/
theorem Name_calls (s : ByteArray) (w : World) : Calls Try.prog 24 #[.string s] w fun e w' => e = .returned (.bool (nameV s)) ∧ Below w.heap.size w w' := by
  by_cases h1 : s.toList = [110, 111, 116]
  · have e1 : (s.toList == ([110, 111, 116] : List UInt8)) = true := beq_iff_eq.2 h1
    have HN := Aside0.mk (nameV_long (.inl h1))
    clear h1
    go_enter Try.func24, Try.ntmps24
    go_wp2
    go_ret
    exact ⟨by rw [HN.out]; rfl, Below.refl _ _⟩
  · have e1 : (s.toList == ([110, 111, 116] : List UInt8)) = false := beq_eq_false_iff_ne.2 h1
    by_cases h2 : s.toList = [115, 97, 121, 115]
    · have e2 : (s.toList == ([115, 97, 121, 115] : List UInt8)) = true := beq_iff_eq.2 h2
      have HN := Aside0.mk (nameV_long (.inr (.inl h2)))
      clear h1 h2
      go_enter Try.func24, Try.ntmps24
      go_wp2
      go_ret
      exact ⟨by rw [HN.out]; rfl, Below.refl _ _⟩
    · have e2 : (s.toList == ([115, 97, 121, 115] : List UInt8)) = false := beq_eq_false_iff_ne.2 h2
      by_cases h3 : 16 < s.size
      · have e3 : decide ((16 : Int) < (s.size : Int)) = true := decide_eq_true (by omega)
        have e3n : decide (16 < s.size) = true := decide_eq_true h3
        have HN := Aside0.mk (nameV_long (.inr (.inr h3)))
        clear h1 h2 h3
        go_enter Try.func24, Try.ntmps24
        go_wp2
        go_ret
        exact ⟨by rw [HN.out]; rfl, Below.refl _ _⟩
      · have e3 : decide ((16 : Int) < (s.size : Int)) = false := decide_eq_false (by omega)
        have e3n : decide (16 < s.size) = false := decide_eq_false h3
        have HN := Aside0.mk (nameV_of h1 h2 (by omega))
        have hsz : s.size ≤ 16 := by omega
        have HE := Aside0.mk (show (!s.toList.isEmpty) = decide (0 < s.size) from by
          by_cases h : s.size = 0
          · rw [(toList_nil s).2 h, decide_eq_false (by omega)]; rfl
          · have : s.toList ≠ [] := fun e => h ((toList_nil s).1 e)
            rw [decide_eq_true (by omega)]
            simpa using this)
        clear h1 h2 h3
        go_enter Try.func24, Try.ntmps24
        go_wp2_with fail
        go_loopw [19] (fun v19 wr => ∃ i : Nat, i ≤ s.size ∧ v19 = .int .i64 i ∧ Aside0 (okFrom s s.size 0 = okFrom s (s.size - i) i) ∧ Aside0 (Below w.heap.size w wr)) (fun v19 _ => s.size - (intOf v19).toNat)
        case atStart => exact ⟨0, by omega, rfl, ⟨rfl⟩, ⟨Below.refl _ _⟩⟩
        case round =>
          obtain ⟨i, hil, rfl, HOK, HQ⟩ := hrel
          by_cases hlt : i < s.size
          · have f0 : decide ((i : Int) < (s.size : Int)) = true := decide_eq_true (by omega)
            have p1 : (0 ≤ (i : Int)) = True := eq_true (by omega)
            have p2 : ((i : Int) < (s.size : Int)) = True := eq_true (by omega)
            have p3 : (i < s.size) = True := eq_true hlt
            have HST := Aside0.mk (okFrom_step s hlt)
            obtain ⟨c, hc⟩ : ∃ c, c = bt s (i : Int) := ⟨_, rfl⟩
            have hx : ∀ h : i < s.size, ((s[i]'h).toNat : Int) = c := fun h => by rw [hc]; simp [bt, h]
            have hyes : okC c (i : Int) = true → okFrom s s.size 0 = okFrom s (s.size - (i + 1)) (i + 1 : Nat) := fun h => by rw [HOK.out, HST.out, ← hc, h]; rfl
            have hno : okC c (i : Int) = false → nameV s = false := fun h => by rw [HN.out, HOK.out, HST.out, ← hc, h]; simp
            have HY := Aside0.mk hyes
            have HNO := Aside0.mk hno
            clear hyes hno hc
            by_cases a1 : 97 ≤ c
            · have b1 : decide (97 ≤ c) = true := decide_eq_true a1
              by_cases a2 : c ≤ 122
              · have b2 : decide (c ≤ 122) = true := decide_eq_true a2
                have CC := Aside0.mk (And.intro a1 a2)
                clear a1 a2
                go_wp2
                go_roundw
                case measure => simp [intOf]; omega
                case rel => exact ⟨i + 1, by omega, by go_num, ⟨HY.out (okC_yes (by have := CC.out; omega))⟩, HQ⟩
              · have b2 : decide (c ≤ 122) = false := decide_eq_false a2
                by_cases a3 : i = 0
                · have b3 : ((i : Int) == 0) = true := beq_iff_eq.2 (by omega)
                  have CC := Aside0.mk (And.intro a2 a3)
                  clear a1 a2 a3
                  go_wp2
                  go_ret
                  exact ⟨by rw [HNO.out (okC_no (by have := CC.out; omega))]; rfl, HQ.out⟩
                · have b3 : ((i : Int) == 0) = false := beq_eq_false_iff_ne.2 (by omega)
                  have b4 : decide (c < 48) = false := decide_eq_false (by omega)
                  have b5 : decide (57 < c) = true := decide_eq_true (by omega)
                  have b6 : (c != 95) = true := bne_iff_ne.2 (by omega)
                  have CC := Aside0.mk a2
                  clear a1 a2 a3
                  go_wp2
                  go_ret
                  exact ⟨by rw [HNO.out (okC_no (by have := CC.out; omega))]; rfl, HQ.out⟩
            · have b1 : decide (97 ≤ c) = false := decide_eq_false a1
              by_cases a3 : i = 0
              · have b3 : ((i : Int) == 0) = true := beq_iff_eq.2 (by omega)
                have CC := Aside0.mk (And.intro a1 a3)
                clear a1 a3
                go_wp2
                go_ret
                exact ⟨by rw [HNO.out (okC_no (by have := CC.out; omega))]; rfl, HQ.out⟩
              · have b3 : ((i : Int) == 0) = false := beq_eq_false_iff_ne.2 (by omega)
                by_cases a4 : c < 48
                · have b4 : decide (c < 48) = true := decide_eq_true a4
                  have b6 : (c != 95) = true := bne_iff_ne.2 (by omega)
                  have CC := Aside0.mk a4
                  clear a1 a3 a4
                  go_wp2
                  go_ret
                  exact ⟨by rw [HNO.out (okC_no (by have := CC.out; omega))]; rfl, HQ.out⟩
                · have b4 : decide (c < 48) = false := decide_eq_false a4
                  by_cases a5 : 57 < c
                  · have b5 : decide (57 < c) = true := decide_eq_true a5
                    by_cases a6 : c = 95
                    · have b6 : (c != 95) = false := bne_eq_false_iff_eq.2 a6
                      have CC := Aside0.mk (And.intro a3 a6)
                      clear a1 a3 a4 a5 a6
                      go_wp2
                      go_roundw
                      case measure => simp [intOf]; omega
                      case rel => exact ⟨i + 1, by omega, by go_num, ⟨HY.out (okC_yes (by have := CC.out; omega))⟩, HQ⟩
                    · have b6 : (c != 95) = true := bne_iff_ne.2 a6
                      have CC := Aside0.mk (And.intro a1 (And.intro a5 a6))
                      clear a1 a3 a4 a5 a6
                      go_wp2
                      go_ret
                      exact ⟨by rw [HNO.out (okC_no (by have := CC.out; omega))]; rfl, HQ.out⟩
                  · have b5 : decide (57 < c) = false := decide_eq_false a5
                    have CC := Aside0.mk (And.intro a3 (And.intro a4 a5))
                    clear a1 a3 a4 a5
                    go_wp2
                    go_roundw
                    case measure => simp [intOf]; omega
                    case rel => exact ⟨i + 1, by omega, by go_num, ⟨HY.out (okC_yes (by have := CC.out; omega))⟩, HQ⟩
          · have f0 : decide ((i : Int) < (s.size : Int)) = false := decide_eq_false (by omega)
            have HF := Aside0.mk (show nameV s = !s.toList.isEmpty from by
              rw [HN.out, HOK.out, show s.size - i = 0 by omega, HE.out]; simp [okFrom])
            go_wp2
            go_ret
            exact ⟨by rw [HF.out]; rfl, HQ.out⟩

/-- value.Good, as the machine calls it. -/
theorem Good_calls (x : S31) (w : World) : Calls Try.prog 22 #[.agg #[.string x.f0, .int .i64 x.f1]] w fun e w' => e = .returned (.bool (goodV x)) ∧ Below w.heap.size w w' := by
  have HB := Aside0.mk (below_alloc (Below.refl w.heap.size w) (.cells #[.string x.f0, .int .i64 x.f1] 31))
  have x0 := blk_cell (blk_new w (.cells #[.string x.f0, .int .i64 x.f1] 31)) 0
  have x1 := blk_cell (blk_new w (.cells #[.string x.f0, .int .i64 x.f1] 31)) 1
  by_cases h0 : x.f0.size = 0
  · have e0 : (x.f0.toList == ([] : List UInt8)) = true := beq_iff_eq.2 ((toList_nil _).2 h0)
    have HG := Aside0.mk (show goodV x = true by unfold goodV; rw [decide_eq_true h0]; rfl)
    clear h0
    go_enter Try.func22, Try.ntmps22
    go_wp2
    go_ret
    exact ⟨by rw [HG.out]; rfl, HB.out⟩
  · have e0 : (x.f0.toList == ([] : List UInt8)) = false := beq_eq_false_iff_ne.2 (fun h => h0 ((toList_nil _).1 h))
    by_cases h1 : x.f1 = 0
    · have e1 : (x.f1 == 0) = true := beq_iff_eq.2 h1
      have HG := Aside0.mk (show goodV x = nameV x.f0 by unfold goodV; rw [decide_eq_false h0, decide_eq_true h1]; simp)
      clear h0 h1
      go_enter Try.func22, Try.ntmps22
      go_wp2_with (go_at_call 24; refine (Name_calls x.f0 _).mono ?_; rintro e w2 ⟨rfl, hb⟩; have HB2 := Aside0.mk (below_step HB.out hb); clear hb x0 x1)
      go_ret
      exact ⟨by rw [HG.out]; rfl, HB2.out⟩
    · have e1 : (x.f1 == 0) = false := beq_eq_false_iff_ne.2 h1
      have HG := Aside0.mk (show goodV x = false by unfold goodV; rw [decide_eq_false h0, decide_eq_false h1]; rfl)
      clear h0 h1
      go_enter Try.func22, Try.ntmps22
      go_wp2
      go_ret
      exact ⟨by rw [HG.out]; rfl, HB.out⟩

end Go.Proofs.Ytjkicljcmognhaa.PInternPlays
