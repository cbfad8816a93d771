/- What the plan's small functions and the reference's compute, in plain lists. No condition beyond those each theorem names. -/
import Derived.Test.YtngamodmbgjajaaPPlanOrdersx3
import Derived.Test.YtngamodmbgjajaaPPlanOrdersx4
import Derived.Test.YtngamodmbgjajaaPPlanOrdersx5
namespace Go.Proofs.Ytngamodmbgjajaa.PPlanOrders
open Go.RowKit Go.Proofs.YtngamodmbgjajaaW.PrintWords Go.Proofs.YtngamodmbgjajaaW.PrintLast Go.Proofs.YtngamodmbgjajaaW.PrintMore
set_option linter.unusedVariables false
set_option linter.unusedSimpArgs false

theorem wrap_up {i : Int} (h0 : 0 ≤ i) (h : i ≤ 1000000000000000000) : wrap64 (i + 1) = i + 1 := by
  unfold wrap64
  omega
theorem bytes_eq (a b : ByteArray) : a.toList = b.toList ↔ a = b := by
  rw [ByteArray.toList_eq, ByteArray.toList_eq]
  constructor
  · intro h
    obtain ⟨⟨x⟩⟩ := a
    obtain ⟨⟨y⟩⟩ := b
    simp at h
    rw [h]
  · intro h; rw [h]
theorem bytes_nil (s : ByteArray) : s.toList = [] ↔ s.size = 0 := by
  rw [ByteArray.toList_eq]
  obtain ⟨⟨x⟩⟩ := s
  show x = [] ↔ x.length = 0
  simp

instance : DecidableEq ByteArray := fun a b => decidable_of_iff (a.toList = b.toList) (bytes_eq a b)
instance memDec (s : ByteArray) (l : List ByteArray) : Decidable (s ∈ l) := decidable_of_iff (s.toList ∈ l.map ByteArray.toList) (by
  rw [List.mem_map]
  constructor
  · rintro ⟨a, h1, h2⟩
    rw [← (bytes_eq _ _).1 h2]
    exact h1
  · exact fun h => ⟨s, h, rfl⟩)
/-- A name put behind a list, unless it is there. -/
def putS (l : List ByteArray) (s : ByteArray) : List ByteArray := if s ∈ l then l else l ++ [s]
def putsS (l more : List ByteArray) : List ByteArray := more.foldl putS l
/-- A literal's variables, behind some. -/
def varsFrom (out : List ByteArray) : List S50 → List ByteArray
  | [] => out
  | t :: r => varsFrom (if t.f0.size = 0 then out else putS out t.f0) r
def varsP (args : List S50) : List ByteArray := varsFrom [] args
/-- What the literals that a list names bind, behind some. -/
def boundFrom (body : List S24) (out : List ByteArray) : List Int → List ByteArray
  | [] => out
  | k :: r => boundFrom body (if 0 ≤ k ∧ k < body.length ∧ (rd_T24 body k).f0 = 1 then putsS out (varsP (rd_T24 body k).f2) else out) r
def boundP (body : List S24) (l : List Int) : List ByteArray := boundFrom body [] l
/-- Is an argument a value, or a bound variable? -/
def isKnown (have_ : List ByteArray) (t : S50) : Bool := decide (t.f0.size = 0) || decide (t.f0 ∈ have_)
def knownP (args : List S50) (have_ : List ByteArray) : Nat := args.countP (isKnown have_)

theorem putS_len (l : List ByteArray) (s : ByteArray) : (putS l s).length ≤ l.length + 1 := by unfold putS; split <;> simp
theorem putsS_len : ∀ (more l : List ByteArray), (putsS l more).length ≤ l.length + more.length
  | [], l => by simp [putsS]
  | s :: r, l => by
    have h1 := putS_len l s
    have h2 := putsS_len r (putS l s)
    show (putsS (putS l s) r).length ≤ _
    simp only [List.length_cons]
    omega
theorem varsFrom_len : ∀ (args : List S50) (out : List ByteArray), (varsFrom out args).length ≤ out.length + args.length
  | [], out => by simp [varsFrom]
  | t :: r, out => by
    unfold varsFrom
    have h1 := putS_len out t.f0
    have h2 := varsFrom_len r (if t.f0.size = 0 then out else putS out t.f0)
    simp only [List.length_cons]
    split at h2 <;> rename_i h <;> simp only [h, if_true, if_false] <;> omega
theorem varsP_len (args : List S50) : (varsP args).length ≤ args.length := by have := varsFrom_len args []; simpa [varsP] using this
theorem boundFrom_len {body : List S24} {M : Nat} (hb : ∀ k : Int, 0 ≤ k → k < body.length → (rd_T24 body k).f2.length ≤ M) : ∀ (l : List Int) (out : List ByteArray), (boundFrom body out l).length ≤ out.length + l.length * M
  | [], out => by simp [boundFrom]
  | k :: r, out => by
    unfold boundFrom
    have h2 := boundFrom_len hb r (if 0 ≤ k ∧ k < body.length ∧ (rd_T24 body k).f0 = 1 then putsS out (varsP (rd_T24 body k).f2) else out)
    have h3 : (if 0 ≤ k ∧ k < body.length ∧ (rd_T24 body k).f0 = 1 then putsS out (varsP (rd_T24 body k).f2) else out).length ≤ out.length + M := by
      split
      · rename_i h
        have h4 := putsS_len (varsP (rd_T24 body k).f2) out
        have h5 := varsP_len (rd_T24 body k).f2
        have h6 := hb k h.1 h.2.1
        omega
      · omega
    simp only [List.length_cons, Nat.add_mul, Nat.one_mul]
    omega

theorem index_s (l : List ByteArray) (a : ByteArray) (hl : l.length ≤ 1000000000) (d : Nat) : ∀ (k i : Nat), l.length - i = d → i ≤ l.length → d < k → (∀ j, j < i → l[j]? ≠ some a) → ∃ r, slices_Index_string_string.l0 k l a l.length i = some r ∧ (r ≥ 0 ↔ a ∈ l) := by
  induction d with
  | zero =>
    intro k i hd hi hk hn
    obtain ⟨k, rfl⟩ : ∃ m, k = m + 1 := ⟨k - 1, by omega⟩
    simp only [slices_Index_string_string.l0]
    rw [if_neg (by omega)]
    refine ⟨-1, rfl, ⟨fun h => by omega, fun h => ?_⟩⟩
    obtain ⟨j, hj, e⟩ := List.getElem_of_mem h
    exact absurd (by rw [List.getElem?_eq_getElem hj, e]) (hn j (by omega))
  | succ d ih =>
    intro k i hd hi hk hn
    obtain ⟨k, rfl⟩ : ∃ m, k = m + 1 := ⟨k - 1, by omega⟩
    simp only [slices_Index_string_string.l0]
    have hlt : i < l.length := by omega
    have hr : rdOf ByteArray.empty l (i : Int) = l[i] := by simp [rdOf, hlt]
    rw [if_pos (by omega), if_pos (by omega), if_pos (by omega), hr]
    by_cases he : a = l[i]
    · rw [if_pos (by rw [he])]
      exact ⟨i, rfl, ⟨fun _ => by rw [he]; exact List.getElem_mem hlt, fun _ => by omega⟩⟩
    · rw [if_neg (fun h => he ((bytes_eq _ _).1 h)), wrap_up (by omega) (by omega)]
      refine ih k (i + 1) (by omega) (by omega) (by omega) (fun j hj => ?_)
      by_cases hji : j < i
      · exact hn j hji
      · obtain rfl : j = i := by omega
        rw [List.getElem?_eq_getElem hlt]
        simpa using fun h => he h.symm
theorem cont_s (l : List ByteArray) (a : ByteArray) (hl : l.length ≤ 1000000000) {k : Nat} (hk : l.length < k) : slices_Contains_string_string.f k l a = some (decide (a ∈ l)) := by
  obtain ⟨r, h1, h2⟩ := index_s l a hl l.length k 0 (by omega) (by omega) hk (fun j hj => by omega)
  unfold slices_Contains_string_string.f slices_Index_string_string.f
  have : slices_Index_string_string.l0 k l a (l.length : Int) 0 = some r := h1
  rw [this]
  show some (decide (r ≥ 0)) = _
  congr 1
  exact decide_eq_decide.2 h2
theorem index_i (l : List Int) (a : Int) (hl : l.length ≤ 1000000000) (d : Nat) : ∀ (k i : Nat), l.length - i = d → i ≤ l.length → d < k → (∀ j, j < i → l[j]? ≠ some a) → ∃ r, slices_Index_int_int.l0 k l a l.length i = some r ∧ (r ≥ 0 ↔ a ∈ l) := by
  induction d with
  | zero =>
    intro k i hd hi hk hn
    obtain ⟨k, rfl⟩ : ∃ m, k = m + 1 := ⟨k - 1, by omega⟩
    simp only [slices_Index_int_int.l0]
    rw [if_neg (by omega)]
    refine ⟨-1, rfl, ⟨fun h => by omega, fun h => ?_⟩⟩
    obtain ⟨j, hj, e⟩ := List.getElem_of_mem h
    exact absurd (by rw [List.getElem?_eq_getElem hj, e]) (hn j (by omega))
  | succ d ih =>
    intro k i hd hi hk hn
    obtain ⟨k, rfl⟩ : ∃ m, k = m + 1 := ⟨k - 1, by omega⟩
    simp only [slices_Index_int_int.l0]
    have hlt : i < l.length := by omega
    have hr : rd l (i : Int) = l[i] := by simp [rd, hlt]
    rw [if_pos (by omega), if_pos (by omega), if_pos (by omega), hr]
    by_cases he : a = l[i]
    · rw [if_pos he]
      exact ⟨i, rfl, ⟨fun _ => by rw [he]; exact List.getElem_mem hlt, fun _ => by omega⟩⟩
    · rw [if_neg he, wrap_up (by omega) (by omega)]
      refine ih k (i + 1) (by omega) (by omega) (by omega) (fun j hj => ?_)
      by_cases hji : j < i
      · exact hn j hji
      · obtain rfl : j = i := by omega
        rw [List.getElem?_eq_getElem hlt]
        simpa using fun h => he h.symm
theorem cont_i (l : List Int) (a : Int) (hl : l.length ≤ 1000000000) {k : Nat} (hk : l.length < k) : slices_Contains_int_int.f k l a = some (decide (a ∈ l)) := by
  obtain ⟨r, h1, h2⟩ := index_i l a hl l.length k 0 (by omega) (by omega) hk (fun j hj => by omega)
  unfold slices_Contains_int_int.f slices_Index_int_int.f
  have : slices_Index_int_int.l0 k l a (l.length : Int) 0 = some r := h1
  rw [this]
  show some (decide (r ≥ 0)) = _
  congr 1
  exact decide_eq_decide.2 h2

theorem put_l0 (more : List ByteArray) (hml : more.length ≤ 1000000000) (d : Nat) : ∀ (k i : Nat) (l : List ByteArray), more.length - i = d → i ≤ more.length → l.length + d ≤ 1000000000 → d + (l.length + d) < k → plan_put.l0 k l more more.length i = some (putsS l (more.drop i)) := by
  induction d with
  | zero =>
    intro k i l hd hi hl hk
    obtain ⟨k, rfl⟩ : ∃ m, k = m + 1 := ⟨k - 1, by omega⟩
    simp only [plan_put.l0]
    rw [if_neg (by omega), List.drop_of_length_le (by omega)]
    rfl
  | succ d ih =>
    intro k i l hd hi hl hk
    obtain ⟨k, rfl⟩ : ∃ m, k = m + 1 := ⟨k - 1, by omega⟩
    simp only [plan_put.l0]
    have hlt : i < more.length := by omega
    have hr : rdOf ByteArray.empty more (i : Int) = more[i] := by simp [rdOf, hlt]
    rw [if_pos (by omega), if_pos (by omega), if_pos (by omega), hr, cont_s l _ (by omega) (by omega)]
    simp only [Option.bind_some]
    rw [List.drop_eq_getElem_cons hlt]
    show _ = some (putsS (putS l more[i]) (more.drop (i + 1)))
    by_cases hm : more[i] ∈ l
    · rw [if_pos (by simpa using hm), wrap_up (by omega) (by omega)]
      have : putS l more[i] = l := by unfold putS; rw [if_pos hm]
      rw [this]
      exact ih k (i + 1) l (by omega) (by omega) (by omega) (by omega)
    · rw [if_neg (by simpa using hm), if_pos (by omega), wrap_up (by omega) (by omega)]
      have : putS l more[i] = l ++ [more[i]] := by unfold putS; rw [if_neg hm]
      rw [this]
      exact ih k (i + 1) (l ++ [more[i]]) (by omega) (by omega) (by simp; omega) (by simp; omega)
theorem put_f (l more : List ByteArray) (hl : l.length + more.length ≤ 1000000000) {k : Nat} (hk : l.length + 2 * more.length < k) : plan_put.f k l more = some (putsS l more) := by
  unfold plan_put.f
  have := put_l0 more (by omega) more.length k 0 l (by omega) (by omega) hl (by omega)
  simpa using this

theorem vars_l0 (args : List S50) (hal : args.length ≤ 1000000000) (d : Nat) : ∀ (k i : Nat) (out : List ByteArray), args.length - i = d → i ≤ args.length → out.length + d ≤ 900000000 → d + (out.length + d) + 10 < k → plan_Vars.l0 k out args args.length i = some (varsFrom out (args.drop i)) := by
  induction d with
  | zero =>
    intro k i out hd hi hl hk
    obtain ⟨k, rfl⟩ : ∃ m, k = m + 1 := ⟨k - 1, by omega⟩
    simp only [plan_Vars.l0]
    rw [if_neg (by omega), List.drop_of_length_le (by omega)]
    rfl
  | succ d ih =>
    intro k i out hd hi hl hk
    obtain ⟨k, rfl⟩ : ∃ m, k = m + 1 := ⟨k - 1, by omega⟩
    simp only [plan_Vars.l0]
    have hlt : i < args.length := by omega
    have hr : rd_T50 args (i : Int) = args[i] := by simp [rd_T50, hlt]
    rw [if_pos (by omega), if_pos (by omega), if_pos (by omega), hr, List.drop_eq_getElem_cons hlt]
    unfold varsFrom
    by_cases h0 : args[i].f0.size = 0
    · rw [if_pos ((bytes_nil _).2 h0), if_pos h0, wrap_up (by omega) (by omega)]
      exact ih k (i + 1) out (by omega) (by omega) (by omega) (by omega)
    · rw [if_neg (fun h => h0 ((bytes_nil _).1 h)), if_neg h0, put_f out [args[i].f0] (by simp; omega) (by simp; omega)]
      simp only [Option.bind_some]
      rw [wrap_up (by omega) (by omega)]
      have h1 := putS_len out args[i].f0
      exact ih k (i + 1) (putS out args[i].f0) (by omega) (by omega) (by omega) (by omega)
theorem vars_f (a : Int) (b : ByteArray) (args : List S50) (hl : args.length ≤ 1048576) {k : Nat} (hk : 3000000 < k) : plan_Vars.f k a b args = some (varsP args) := by
  unfold plan_Vars.f
  have := vars_l0 args (by omega) args.length k 0 [] (by omega) (by omega) (by simp; omega) (by simp; omega)
  simpa [varsP] using this

end Go.Proofs.Ytngamodmbgjajaa.PPlanOrders
