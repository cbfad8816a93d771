/- What plan.Order and plan.From answer, and the small functions that the laws use. No condition beyond those each theorem names. -/
import Derived.Test.YtngamodmbgjajaaPlanV
namespace Go.Proofs.Ytngamodmbgjajaa.PPlanOrders
open Go.RowKit Go.Proofs.YtngamodmbgjajaaW.PrintWords Go.Proofs.YtngamodmbgjajaaW.PrintLast Go.Proofs.YtngamodmbgjajaaW.PrintMore
set_option linter.unusedVariables false
set_option linter.unusedSimpArgs false

theorem flat_get {sz : Nat} : ∀ (css : List (List Value)) (j : Nat) (c : List Value), (∀ c ∈ css, c.length = sz) → css[j]? = some c → ∀ i u, c[i]? = some u → css.flatten[j * sz + i]? = some u
  | [], j, c, _, h, _, _, _ => by simp at h
  | c0 :: r, 0, c, hl, h, i, u, hu => by
    obtain rfl : c0 = c := by simpa using h
    have hi : i < c0.length := (List.getElem?_eq_some_iff.1 hu).1
    rw [List.flatten_cons, Nat.zero_mul, Nat.zero_add, List.getElem?_append_left hi]
    exact hu
  | c0 :: r, j + 1, c, hl, h, i, u, hu => by
    have h0 : c0.length = sz := hl c0 (by simp)
    rw [List.flatten_cons, List.getElem?_append_right (by rw [h0, Nat.add_mul]; omega), h0, show (j + 1) * sz + i - sz = j * sz + i by rw [Nat.add_mul]; omega]
    exact flat_get r j c (fun c hc => hl c (by simp [hc])) (by simpa using h) i u hu
/-- A literal's block, read. -/
theorem C_lit {α : Type} (d : Kd α) {w : World} {b e : Nat} {l : List α} (css : List (List Value)) (hl : l.length = css.length) (hm : l.length ≤ 9223372036854775807) (hK : ∀ (j : Nat) (x : α) (c : List Value), l[j]? = some x → css[j]? = some c → d.K w x c) (h : w.heap[b]? = some (.cells css.flatten.toArray e (0, 0))) : Kd.C d w (some ⟨b, 0, none⟩) l.length l := by
  have hsz : ∀ c ∈ css, c.length = d.sz := fun c hc => by
    obtain ⟨j, hj, e1⟩ := List.getElem_of_mem hc
    exact d.K_len (hK j l[j] c (List.getElem?_eq_getElem (by omega)) (by rw [List.getElem?_eq_getElem hj, e1]))
  refine ⟨rfl, hm, fun _ => ⟨_, rfl, fun j p hj => ?_⟩⟩
  have hjl : j < l.length := (List.getElem?_eq_some_iff.1 hj).1
  have hc : css[j]? = some css[j] := List.getElem?_eq_getElem (by omega)
  refine ⟨css[j], hsz _ (List.getElem_mem _), hK j p _ hj hc, fun i u hu => ?_⟩
  rw [add_plain, blk_cell h]
  simpa using flat_get css j _ hsz hc i u hu
theorem C_strs {w : World} {b : Nat} (l : List ByteArray) (hm : l.length ≤ 9223372036854775807) (h : w.heap[b]? = some (.cells (l.map Value.string).toArray 9 (0, 0))) : Kd.C Kd.string w (some ⟨b, 0, none⟩) l.length l := by
  refine C_lit Kd.string (l.map fun s => [Value.string s]) (by simp) hm (fun j x c hx hc => ?_) (e := 9) ?_
  · rw [List.getElem?_map, hx] at hc
    obtain rfl : [Value.string x] = c := by simpa using hc
    rfl
  · rw [h]
    congr 3
    clear h hm
    induction l with
    | nil => rfl
    | cons a r ih => simpa using ih
theorem C_ints {w : World} {b : Nat} (l : List Int) (hm : l.length ≤ 9223372036854775807) (h : w.heap[b]? = some (.cells (l.map (Value.int .i64)).toArray 3 (0, 0))) : Kd.C (Kd.int .i64) w (some ⟨b, 0, none⟩) l.length l := by
  refine C_lit (Kd.int .i64) (l.map fun s => [Value.int .i64 s]) (by simp) hm (fun j x c hx hc => ?_) (e := 3) ?_
  · rw [List.getElem?_map, hx] at hc
    obtain rfl : [Value.int .i64 x] = c := by simpa using hc
    rfl
  · rw [h]
    congr 3
    clear h hm
    induction l with
    | nil => rfl
    | cons a r ih => simpa using ih

theorem numbers_l0 (a b : List Int) (hl : a.length = b.length) (hm : a.length ≤ 1000000000) (d : Nat) : ∀ (k i : Nat), a.length - i = d → i ≤ a.length → d < k → a.take i = b.take i → mandatelaw13_numbers.l0 k a b i = some (decide (a = b)) := by
  induction d with
  | zero =>
    intro k i hd hi hk ht
    obtain ⟨k, rfl⟩ : ∃ m, k = m + 1 := ⟨k - 1, by omega⟩
    simp only [mandatelaw13_numbers.l0]
    rw [if_neg (by omega)]
    rw [List.take_of_length_le (by omega), List.take_of_length_le (by omega)] at ht
    rw [decide_eq_true ht]
  | succ d ih =>
    intro k i hd hi hk ht
    obtain ⟨k, rfl⟩ : ∃ m, k = m + 1 := ⟨k - 1, by omega⟩
    simp only [mandatelaw13_numbers.l0]
    have h1 : i < a.length := by omega
    have h2 : i < b.length := by omega
    have e1 : rd a (i : Int) = a[i] := by simp [rd, h1]
    have e2 : rd b (i : Int) = b[i] := by simp [rd, h2]
    rw [if_pos (by omega), if_pos (by omega), if_pos (by omega), e1, e2]
    by_cases he : a[i] = b[i]
    · rw [if_pos he, wrap_up (by omega) (by omega)]
      refine ih k (i + 1) (by omega) (by omega) (by omega) ?_
      rw [List.take_add_one, List.take_add_one, ht, List.getElem?_eq_getElem h1, List.getElem?_eq_getElem h2, he]
    · rw [if_neg he]
      congr 1
      symm
      refine decide_eq_false (fun h => he ?_)
      subst h
      rfl
theorem numbers_f (a b : List Int) (hm : a.length ≤ 1000000000) {k : Nat} (hk : a.length < k) : mandatelaw13_numbers.f k a b = some (decide (a = b)) := by
  unfold mandatelaw13_numbers.f
  by_cases hl : a.length = b.length
  · rw [if_pos (by omega)]
    exact numbers_l0 a b hl hm a.length k 0 (by omega) (by omega) hk rfl
  · rw [if_neg (by omega)]
    congr 1
    symm
    exact decide_eq_false (fun h => hl (by rw [h]))
theorem names_l0 (a b : List ByteArray) (hl : a.length = b.length) (hm : a.length ≤ 1000000000) (d : Nat) : ∀ (k i : Nat), a.length - i = d → i ≤ a.length → d < k → a.take i = b.take i → mandatelaw13_names.l0 k a b i = some (decide (a = b)) := by
  induction d with
  | zero =>
    intro k i hd hi hk ht
    obtain ⟨k, rfl⟩ : ∃ m, k = m + 1 := ⟨k - 1, by omega⟩
    simp only [mandatelaw13_names.l0]
    rw [if_neg (by omega)]
    rw [List.take_of_length_le (by omega), List.take_of_length_le (by omega)] at ht
    rw [decide_eq_true ht]
  | succ d ih =>
    intro k i hd hi hk ht
    obtain ⟨k, rfl⟩ : ∃ m, k = m + 1 := ⟨k - 1, by omega⟩
    simp only [mandatelaw13_names.l0]
    have h1 : i < a.length := by omega
    have h2 : i < b.length := by omega
    have e1 : rdOf ByteArray.empty a (i : Int) = a[i] := by simp [rdOf, h1]
    have e2 : rdOf ByteArray.empty b (i : Int) = b[i] := by simp [rdOf, h2]
    rw [if_pos (by omega), if_pos (by omega), if_pos (by omega), e1, e2]
    by_cases he : a[i] = b[i]
    · rw [if_pos (by rw [he]), wrap_up (by omega) (by omega)]
      refine ih k (i + 1) (by omega) (by omega) (by omega) ?_
      rw [List.take_add_one, List.take_add_one, ht, List.getElem?_eq_getElem h1, List.getElem?_eq_getElem h2, he]
    · rw [if_neg (fun h => he ((bytes_eq _ _).1 h))]
      congr 1
      symm
      refine decide_eq_false (fun h => he ?_)
      subst h
      rfl
theorem names_f (a b : List ByteArray) (hm : a.length ≤ 1000000000) {k : Nat} (hk : a.length < k) : mandatelaw13_names.f k a b = some (decide (a = b)) := by
  unfold mandatelaw13_names.f
  by_cases hl : a.length = b.length
  · rw [if_pos (by omega)]
    exact names_l0 a b hl hm a.length k 0 (by omega) (by omega) hk rfl
  · rw [if_neg (by omega)]
    congr 1
    symm
    exact decide_eq_false (fun h => hl (by rw [h]))
/-- A literal of variables. -/
def litArgs (vs : List ByteArray) : List S50 := vs.map fun s => ⟨s, ⟨⟨#[]⟩, 0⟩⟩
theorem lit_l0 (vs : List ByteArray) (a : Int) (b : ByteArray) (hm : vs.length ≤ 1000000000) (d : Nat) : ∀ (k i : Nat) (out : List S50), vs.length - i = d → i ≤ vs.length → out.length + d ≤ 1000000000 → d < k → mandatelaw13_lit.l0 k vs i a b out = some (a, b, out ++ litArgs (vs.drop i)) := by
  induction d with
  | zero =>
    intro k i out hd hi ho hk
    obtain ⟨k, rfl⟩ : ∃ m, k = m + 1 := ⟨k - 1, by omega⟩
    simp only [mandatelaw13_lit.l0]
    rw [if_neg (by omega), List.drop_of_length_le (by omega)]
    simp [litArgs]
  | succ d ih =>
    intro k i out hd hi ho hk
    obtain ⟨k, rfl⟩ : ∃ m, k = m + 1 := ⟨k - 1, by omega⟩
    simp only [mandatelaw13_lit.l0]
    have h1 : i < vs.length := by omega
    have e1 : rdOf ByteArray.empty vs (i : Int) = vs[i] := by simp [rdOf, h1]
    rw [if_pos (by omega), if_pos (by omega), if_pos (by omega), e1, wrap_up (by omega) (by omega)]
    have := ih k (i + 1) (out ++ [⟨vs[i], ⟨⟨#[]⟩, 0⟩⟩]) (by omega) (by omega) (by simp; omega) (by omega)
    refine Eq.trans this ?_
    rw [List.drop_eq_getElem_cons h1]
    show some (a, b, out ++ [_] ++ litArgs (vs.drop (i + 1))) = some (a, b, out ++ litArgs (vs[i] :: vs.drop (i + 1)))
    rw [List.append_assoc]
    rfl
theorem lit_f (vs : List ByteArray) (a : Int) (b : ByteArray) (hm : vs.length ≤ 1000000) {k : Nat} (hk : vs.length < k) : mandatelaw13_lit.f k a b vs = some (a, b, litArgs vs) := by
  unfold mandatelaw13_lit.f
  have := lit_l0 vs a b (by omega) vs.length k 0 [] (by omega) (by omega) (by simp; omega) hk
  simpa using this
theorem copyFlat_f (a : Int) (b : ByteArray) (args : List S50) (h : args.length ≤ 1000000000) : mandateref09_CopyFlat.f a b args = some (a, b, args) := by
  unfold mandateref09_CopyFlat.f
  simp only [Option.bind_some, List.nil_append]
  rw [if_pos (by simp; omega)]
theorem copyRule_l0 {body : List S24} (hb : Small body) (a : Int) (b : ByteArray) (hd_ : List S50) (a' : Int) (b' : ByteArray) (hd' : List S50) (d : Nat) : ∀ (k i : Nat), body.length - i = d → i ≤ body.length → d < k → mandateref09_CopyRule.l0 k i a b hd_ body a' b' hd' (body.take i) = some (a', b', hd', body) := by
  have hlen := hb.1
  induction d with
  | zero =>
    intro k i hd hi hk
    obtain ⟨k, rfl⟩ : ∃ m, k = m + 1 := ⟨k - 1, by omega⟩
    simp only [mandateref09_CopyRule.l0]
    rw [if_neg (by omega), List.take_of_length_le (by omega)]
  | succ d ih =>
    intro k i hd hi hk
    obtain ⟨k, rfl⟩ : ∃ m, k = m + 1 := ⟨k - 1, by omega⟩
    simp only [mandateref09_CopyRule.l0]
    have h1 : i < body.length := by omega
    have e1 : rd_T24 body (i : Int) = body[i] := by simp [rd_T24, h1]
    have h2 := hb.2 i (by omega) (by omega)
    rw [if_pos (by omega), if_pos (by omega), copyFlat_f _ _ _ (by omega)]
    simp only [Option.bind_some]
    rw [if_pos (by rw [List.length_take]; omega), wrap_up (by omega) (by omega)]
    have := ih k (i + 1) (by omega) (by omega) (by omega)
    rw [List.take_add_one, List.getElem?_eq_getElem h1] at this
    rw [e1]
    exact this
theorem copyRule_f {body : List S24} (hb : Small body) (a : Int) (b : ByteArray) (hd_ : List S50) (hh : hd_.length ≤ 1000000000) {k : Nat} (hk : 100 ≤ k) : mandateref09_CopyRule.f k a b hd_ body = some (a, b, hd_, body) := by
  unfold mandateref09_CopyRule.f
  have hlen := hb.1
  rw [copyFlat_f _ _ _ hh]
  simp only [Option.bind_some]
  have := copyRule_l0 hb a b hd_ a b hd_ body.length k 0 (by omega) (by omega) (by omega)
  simpa using this

theorem R_int_new (w : World) (base : Nat) (hb : base ≤ w.heap.size) (k : Int) : Kd.R (Kd.int .i64) 3 (w.alloc (.cells #[.int .i64 k] 3)) base (fun j => j = w.heap.size) (.slice (some ⟨w.heap.size, 0, none⟩) 1 1) [k] :=
  ⟨fun j hj => by simpa [Value.ownBlock, eq_comm] using hj, [.int .i64 k], World.ownsRow_lit (base := base) (e := 3) (size := 1) w #[.int .i64 k] 1 hb (by decide) rfl, Reps.one rfl (Reps.none _ _)⟩

set_option maxHeartbeats 1000000 in
set_option maxRecDepth 100000 in
theorem order_calls (w : World) (a : Int) (b : ByteArray) (A2 : Option Addr) (c2 : Nat) (hd_ : List S50) (h2 : Kd.C k50 w A2 hd_.length hd_) (hc2 : hd_.length ≤ c2) (A3 : Option Addr) (c3 : Nat) (body : List S24) (h3 : Kd.C k24 w A3 body.length body) (hc3 : body.length ≤ c3) (hb : Small body) :
    Calls Try.prog 7 #[.agg #[.int .u8 a, .string b, .slice A2 hd_.length c2, .slice A3 body.length c3]] w fun e w' => ∃ v1, e = .returned (.tuple #[v1, .bool (planP body []).2]) ∧ Kd.R (Kd.int .i64) 3 w' w.heap.size (fun _ => True) v1 (planP body []).1 ∧ Below w.heap.size w w' := by
  have HX := Aside0.mk (show RuleAt (w.alloc (.cells #[.int .u8 a, .string b, .slice A2 hd_.length c2, .slice A3 body.length c3] 27)) w.heap.size a b A2 hd_.length c2 A3 body.length c3 from blk_new w _)
  have HB := Aside0.mk (below_alloc (Below.refl w.heap.size w) (.cells #[.int .u8 a, .string b, .slice A2 hd_.length c2, .slice A3 body.length c3] 27))
  have H2 := Aside0.mk (And.intro h2 (And.intro hc2 (And.intro h3 (And.intro hc3 hb))))
  clear h2 hc2 h3 hc3 hb
  go_enter Try.func7, Try.ntmps7
  obtain ⟨x0, x1, x2, x3⟩ := HX.out.cells
  go_wp2_with fail
  refine (goOn_calls w _ HB.out a b A2 c2 hd_ H2.out.1 H2.out.2.1 A3 c3 body H2.out.2.2.1 H2.out.2.2.2.1 H2.out.2.2.2.2 _ [] (fun _ => False) (Kd.R_nil _ _ _ _ _) (fun _ h => h.elim) (by simp)).mono ?_
  rintro e w1 ⟨v1, rfl, hr, hb1⟩
  have HR := Aside0.mk hr
  have HB1 := Aside0.mk hb1
  clear hr hb1 x0 x1 x2 x3
  go_wp2
  go_ret2
  exact ⟨_, rfl, HR.out, HB1.out⟩

set_option maxHeartbeats 1000000 in
set_option maxRecDepth 100000 in
theorem from_calls (w : World) (a : Int) (b : ByteArray) (A2 : Option Addr) (c2 : Nat) (hd_ : List S50) (h2 : Kd.C k50 w A2 hd_.length hd_) (hc2 : hd_.length ≤ c2) (A3 : Option Addr) (c3 : Nat) (body : List S24) (h3 : Kd.C k24 w A3 body.length body) (hc3 : body.length ≤ c3) (hb : Small body) (k : Int) :
    Calls Try.prog 10 #[.agg #[.int .u8 a, .string b, .slice A2 hd_.length c2, .slice A3 body.length c3], .int .i64 k] w fun e w' => ∃ v1, e = .returned (.tuple #[v1, .bool (fromP body k).2]) ∧ Kd.R (Kd.int .i64) 3 w' w.heap.size (fun _ => True) v1 (fromP body k).1 ∧ Below w.heap.size w w' := by
  have HX := Aside0.mk (show RuleAt (w.alloc (.cells #[.int .u8 a, .string b, .slice A2 hd_.length c2, .slice A3 body.length c3] 27)) w.heap.size a b A2 hd_.length c2 A3 body.length c3 from blk_new w _)
  have HB := Aside0.mk (below_alloc (Below.refl w.heap.size w) (.cells #[.int .u8 a, .string b, .slice A2 hd_.length c2, .slice A3 body.length c3] 27))
  have H2 := Aside0.mk (And.intro h2 (And.intro hc2 (And.intro h3 (And.intro hc3 hb))))
  clear h2 hc2 hc3 hb
  obtain ⟨x0, x1, x2, x3⟩ := HX.out.cells
  by_cases k0 : k < 0
  · have f0 : decide (k < 0) = true := decide_eq_true k0
    have HF := Aside0.mk (show fromP body k = ([], false) by unfold fromP; rw [if_neg (fun h => by omega)])
    go_enter Try.func10, Try.ntmps10
    go_wp2
    go_ret2
    exact ⟨_, by rw [HF.out]; rfl, by rw [HF.out]; exact Kd.R_nil _ _ _ _ _, HB.out⟩
  · have f0 : decide (k < 0) = false := decide_eq_false k0
    by_cases k1 : (body.length : Int) ≤ k
    · have f1 : decide ((body.length : Int) ≤ k) = true := decide_eq_true k1
      have HF := Aside0.mk (show fromP body k = ([], false) by unfold fromP; rw [if_neg (fun h => by omega)])
      go_enter Try.func10, Try.ntmps10
      go_wp2
      go_ret2
      exact ⟨_, by rw [HF.out]; rfl, by rw [HF.out]; exact Kd.R_nil _ _ _ _ _, HB.out⟩
    · have f1 : decide ((body.length : Int) ≤ k) = false := decide_eq_false k1
      have p1 : (0 ≤ k) = True := eq_true (by omega)
      have p2 : (k < (body.length : Int)) = True := eq_true (by omega)
      obtain ⟨ad, Ax, cx, ea, hx0, hx1, hx2, hlx, hCx⟩ := at_T24 h3 k (by omega) (by omega)
      cases ea
      obtain ⟨x, hx⟩ : ∃ x, x = rd_T24 body k := ⟨_, rfl⟩
      have hx0 := pw_cell_below HB.out hx0
      rw [← hx] at hx0
      clear hx1 hx2 hlx hCx h3
      by_cases k2 : x.f0 = 1
      · have f2 : (x.f0 != 1) = false := by rw [k2]; rfl
        have HF := Aside0.mk (show fromP body k = planP body [k] by unfold fromP; rw [if_pos ⟨by omega, by omega, by rw [← hx]; exact k2⟩])
        clear k2 hx
        go_enter Try.func10, Try.ntmps10
        go_wp2_with fail
        have HA := Aside0.mk (show Kd.R (Kd.int .i64) 3 ((w.alloc (.cells #[.int .u8 a, .string b, .slice A2 hd_.length c2, .slice (some ad) body.length c3] 27)).alloc (.cells #[.int .i64 k] 3)) w.heap.size (fun j => j = w.heap.size + 1) (.slice (some ⟨w.heap.size + 1, 0, none⟩) 1 1) [k] from by
          have := R_int_new (w.alloc (.cells #[.int .u8 a, .string b, .slice A2 hd_.length c2, .slice (some ad) body.length c3] 27)) w.heap.size (by simp) k
          simpa using this)
        refine (goOn_calls w _ (below_alloc HB.out _) a b A2 c2 hd_ H2.out.1 H2.out.2.1 (some ad) c3 body H2.out.2.2.1 H2.out.2.2.2.1 H2.out.2.2.2.2 _ [k] _ HA.out (fun j hj => by rw [hj]; simp) (by simp)).mono ?_
        rintro e w1 ⟨v1, rfl, hr, hb1⟩
        have HR := Aside0.mk hr
        have HB1 := Aside0.mk hb1
        clear hr hb1 x0 x1 x2 x3 hx0
        go_wp2
        go_ret2
        exact ⟨_, by rw [HF.out]; rfl, by rw [HF.out]; exact HR.out, HB1.out⟩
      · have f2 : (x.f0 != 1) = true := by rw [bne_iff_ne]; exact k2
        have HF := Aside0.mk (show fromP body k = ([], false) by unfold fromP; rw [if_neg (fun h => k2 (by rw [hx]; exact h.2.2))])
        clear k2 hx
        go_enter Try.func10, Try.ntmps10
        go_wp2
        go_ret2
        exact ⟨_, by rw [HF.out]; rfl, by rw [HF.out]; exact Kd.R_nil _ _ _ _ _, HB.out⟩

end Go.Proofs.Ytngamodmbgjajaa.PPlanOrders
