/- PlanWhole, walked: it answers true. No condition beyond those each theorem names. -/
import Derived.Test.YtngamodmbgjajaaWholeP
import Derived.Test.YtngamodmbgjajaaOrdersW
namespace Go.Proofs.Ytngamodmbgjajaa.PPlanOrders
open Go.RowKit Go.Proofs.YtngamodmbgjajaaW.PrintWords Go.Proofs.YtngamodmbgjajaaW.PrintLast Go.Proofs.YtngamodmbgjajaaW.PrintMore
set_option linter.unusedVariables false
set_option linter.unusedSimpArgs false

theorem info4 : (Try.prog.info? 4).map (fun i => (i.zero, i.size, i.bytes)) = some (some (.bool false), 1, 1) := by kernel_rfl

theorem seenL_rd {n : Nat} {p : List Int} {x : Int} (h0 : 0 ≤ x) (h1 : x < n) : rdOf false (seenL n p) x = decide (x ∈ p) := by
  have h2 : x.toNat < n := by omega
  have h3 : ((x.toNat : Nat) : Int) = x := by omega
  simp [rdOf, seenL, h2, h3]
/-- What stands where the plan has been asked for. -/
def Asked (w wc : World) (v5 v6 : Value) (body : List S24) : Prop :=
  ∃ (l : List Int) (ok : Bool), v6 = .bool ok ∧ Kd.R (Kd.int .i64) 3 wc w.heap.size (fun _ => True) v5 l ∧ (ok = true → Chain body l ∧ l.length = body.length) ∧ (ok = false → l = [])

set_option maxHeartbeats 8000000 in
set_option maxRecDepth 100000 in
theorem Whole_calls (w : World) (a : Int) (b : ByteArray) (A2 : Option Addr) (c2 : Nat) (hd_ : List S50) (h2 : Kd.C k50 w A2 hd_.length hd_) (hc2 : hd_.length ≤ c2) (hh : hd_.length ≤ 1048576) (A3 : Option Addr) (c3 : Nat) (body : List S24) (h3 : Kd.C k24 w A3 body.length body) (hc3 : body.length ≤ c3) (hb : body.length ≤ 30 → Small body) (hbl : body.length ≤ 1000000000) (k : Int) :
    Calls Try.prog 5 #[.agg #[.int .u8 a, .string b, .slice A2 hd_.length c2, .slice A3 body.length c3], .int .i64 k] w fun e w' => e = .returned (.bool true) ∧ Below w.heap.size w w' := by
  have HX := Aside0.mk (show RuleAt (w.alloc (.cells #[.int .u8 a, .string b, .slice A2 hd_.length c2, .slice A3 body.length c3] 27)) w.heap.size a b A2 hd_.length c2 A3 body.length c3 from blk_new w _)
  have HB := Aside0.mk (below_alloc (Below.refl w.heap.size w) (.cells #[.int .u8 a, .string b, .slice A2 hd_.length c2, .slice A3 body.length c3] 27))
  have H2 := Aside0.mk (And.intro h2 (And.intro hc2 (And.intro h3 hc3)))
  have HS := Aside0.mk hb
  have HH := Aside0.mk hh
  clear h2 hc2 hc3 h3 hb hh
  go_enter Try.func5, Try.ntmps5
  go_wp2_with fail
  refine (fixed_calls _).mono ?_
  rintro e w1 ⟨rfl, hb⟩
  have HX1 := Aside0.mk (HX.out.below hb)
  have HB1 := Aside0.mk (below_step HB.out hb)
  clear hb HX HB
  obtain ⟨x0, x1, x2, x3⟩ := HX1.out.cells
  by_cases h30 : body.length ≤ 30
  · have f30 : decide ((30 : Int) < (body.length : Int)) = false := decide_eq_false (by omega)
    have HSm := Aside0.mk (HS.out h30)
    clear HS
    go_wp2_with fail
    refine (copy_at w1 a b A2 c2 hd_ (Kd.C_below H2.out.1 HB1.out) H2.out.2.1 (by have := HH.out; omega) A3 c3 body (Kd.C_below H2.out.2.2.1 HB1.out) H2.out.2.2.2 HSm.out).mono ?_
    rintro e w2 ⟨A2', c2', A3', c3', rfl, k1, k2, k3, k4, hb⟩
    have HC2 := Aside0.mk (And.intro k1 (And.intro k2 (And.intro k3 k4)))
    have HX2 := Aside0.mk (HX1.out.below hb)
    have HB2 := Aside0.mk (below_step HB1.out hb)
    clear k1 k2 k3 k4 hb x0 x1 x2 x3 HX1 HB1
    go_wp2_with fail
    refine (from_calls w2 a b A2' c2' hd_ HC2.out.1 HC2.out.2.1 A3' c3' body HC2.out.2.2.1 HC2.out.2.2.2 HSm.out k).mono ?_
    rintro e w3 ⟨v1, rfl, hr, hb⟩
    have HO3 := Aside0.mk (Kd.R_lower (base' := w.heap.size) hr HB2.out.size)
    have HX3 := Aside0.mk (HX2.out.below hb)
    have HB3 := Aside0.mk (below_step HB2.out hb)
    clear hr hb HX2 HB2 HC2
    have HFC := Aside0.mk (show (fromP body k).2 = true → Chain body (fromP body k).1 ∧ (fromP body k).1.length = body.length from fromP_chain)
    generalize fromP body k = P1 at HO3 HFC ⊢
    obtain ⟨pa, pb⟩ := P1
    obtain ⟨x0, x1, x2, x3⟩ := HX3.out.cells
    go_upto_if 31 with fail
    go_cut [5, 6] (fun v5 v6 wc => Aside0 (Asked w wc v5 v6 body) ∧ Aside0 (RuleAt wc w.heap.size a b A2 hd_.length c2 A3 body.length c3) ∧ Aside0 (Below w.heap.size w wc))
    case first => as_aux_lemma =>
      cases pb with
      | true =>
        go_wp2
        go_meet
        case rel => exact ⟨⟨pa, true, rfl, HO3.out, fun _ => HFC.out (by first | trivial | rfl), fun h => by cases h⟩, HX3, HB3⟩
      | false =>
        go_wp2_with fail
        refine (copy_at w3 a b A2 c2 hd_ (Kd.C_below H2.out.1 HB3.out) H2.out.2.1 (by have := HH.out; omega) A3 c3 body (Kd.C_below H2.out.2.2.1 HB3.out) H2.out.2.2.2 HSm.out).mono ?_
        rintro e w4 ⟨A2'', c2'', A3'', c3'', rfl, k1, k2, k3, k4, hb⟩
        have HC4 := Aside0.mk (And.intro k1 (And.intro k2 (And.intro k3 k4)))
        have HX4 := Aside0.mk (HX3.out.below hb)
        have HB4 := Aside0.mk (below_step HB3.out hb)
        clear k1 k2 k3 k4 hb x0 x1 x2 x3 HX3 HB3 HO3
        go_wp2_with fail
        refine (order_calls w4 a b A2'' c2'' hd_ HC4.out.1 HC4.out.2.1 A3'' c3'' body HC4.out.2.2.1 HC4.out.2.2.2 HSm.out).mono ?_
        rintro e w5 ⟨v2, rfl, hr, hb⟩
        have HO5 := Aside0.mk (Kd.R_lower (base' := w.heap.size) hr HB4.out.size)
        have HX5 := Aside0.mk (HX4.out.below hb)
        have HB5 := Aside0.mk (below_step HB4.out hb)
        clear hr hb HX4 HB4 HC4
        have HPC := Aside0.mk (show (planP body []).2 = true → Chain body (planP body []).1 ∧ (planP body []).1.length = body.length from planP_chain (by simp) (Chain.nil body))
        have HPF := Aside0.mk (show (planP body []).2 = false → (planP body []).1 = [] from planP_false)
        generalize planP body [] = P2 at HO5 HPC HPF ⊢
        obtain ⟨qa, qb⟩ := P2
        go_wp2
        go_meet
        case rel => exact ⟨⟨qa, qb, rfl, HO5.out, HPC.out, HPF.out⟩, HX5, HB5⟩
    case rest => as_aux_lemma =>
      obtain ⟨HA, HX, HB⟩ := hcut
      obtain ⟨l, ok, ev6, hR, hCh, hNo⟩ := HA.out
      subst ev6
      clear HA
      obtain ⟨Ao, co, ev⟩ := Kd.R_slice hR
      subst ev
      obtain ⟨x0, x1, x2, x3⟩ := HX.out.cells
      cases ok with
      | false =>
        obtain rfl := hNo rfl
        have HB2 := HB
        clear hR hCh hNo
        go_wp2
        go_ret
        exact ⟨rfl, HB2.out⟩
      | true =>
        have HCH := Aside0.mk (hCh rfl).1
        have HLL := Aside0.mk (hCh rfl).2
        clear hCh hNo
        have HRL := Aside0.mk (Kd.R_mono (Kd.R_bound hR) (ok' := fun j => j < wc.heap.size) (fun k hk => hk.2.2.1))
        have hsz := HB.out.size
        clear hR
        go_wp2_with (refine Kd.R_make Kd.bool (w0 := w) w.heap.size 4 rfl (N := 46) rfl 42 (.tmp 45) (.tmp 45) rfl (body.length : Int) rfl rfl Try.underlying42 (.bool false) 1 info4 rfl (by decide) (by decide) false (ok := fun k => k = wc.heap.size) (okp := fun _ => False) rfl (fun _ h => h.elim) rfl (by omega) (by simp; omega) HB.out hsz ?_; intro v6 w6 ho hb hg hat; have HSN := Aside0.mk ho; have HB6 := Aside0.mk hb; have HG6 := Aside0.mk hg; clear ho hb hg hat)
        obtain ⟨A7, c7, ev⟩ := Kd.R_slice HSN.out
        rw [List.length_replicate, Int.toNat_natCast] at ev
        subst ev
        have HSN0 := Aside0.mk (show Kd.R Kd.bool 4 w6 w.heap.size (fun k => k = wc.heap.size) (.slice A7 body.length c7) (seenL body.length (l.take 0)) from by rw [List.take_zero, seenL_nil]; simpa using HSN.out)
        have HX6 := Aside0.mk (show RuleAt w6 w.heap.size a b A2 hd_.length c2 A3 body.length c3 from blk_grown HX.out HG6.out (by simp))
        have HL6 := Aside0.mk (Kd.R_grown HRL.out HG6.out (fun _ _ => by simp))
        have HG0 := Aside0.mk (show w.heap.size < wc.heap.size from blk_lt HX.out)
        clear HSN HG6 HX HB HRL x0 x1 x2 x3 hsz
        go_loopw [8] (fun v8 wr => ∃ i : Nat, i ≤ l.length ∧ v8 = .int .i64 i ∧ Aside0 (Kd.R Kd.bool 4 wr w.heap.size (fun k => k = wc.heap.size) (.slice A7 body.length c7) (seenL body.length (l.take i))) ∧ Aside0 (Kd.R (Kd.int .i64) 3 wr w.heap.size (fun j => j < wc.heap.size) (.slice Ao l.length co) l) ∧ Aside0 (RuleAt wr w.heap.size a b A2 hd_.length c2 A3 body.length c3) ∧ Aside0 (Below w.heap.size w wr)) (fun v8 _ => l.length - (intOf v8).toNat)
        case atStart => exact ⟨0, by omega, rfl, HSN0, HL6, HX6, HB6⟩
        case round => as_aux_lemma =>
          clear HSN0 HL6 HX6 HB6
          obtain ⟨i, hil, rfl, HSN, HL, HX, HB⟩ := hrel
          obtain ⟨x0, x1, x2, x3⟩ := HX.out.cells
          by_cases hlt : i < l.length
          · have f0 : decide ((i : Int) < (l.length : Int)) = true := decide_eq_true (by omega)
            obtain ⟨x, hx⟩ : ∃ x, x = rd l (i : Int) := ⟨_, rfl⟩
            have hfit := HCH.out.at hlt
            have HLT := Aside0.mk hlt
            have hi30 : i ≤ 30 := by have := HLL.out; omega
            rw [← hx] at hfit
            obtain ⟨q0, q1, q2, q3, q4⟩ := hfit
            have HQ3 := Aside0.mk q3
            have HQ4 := Aside0.mk q4
            have HQ2 := Aside0.mk q2
            obtain ⟨ad, ea, hx0⟩ := Kd.at_int (Kd.R_reads' HL.out).2.2 (i : Int) (by omega) (by omega)
            cases ea
            rw [Int.toNat_natCast, ← hx] at hx0
            have HXE := Aside0.mk hx
            obtain ⟨g, cg, eg, _, _, _⟩ := Kd.R_form HSN.out (by rw [seenL_len]; have := HLL.out; omega)
            rw [seenL_len] at eg
            injection eg with eg1 eg2 eg3
            subst eg1
            clear eg2 eg3
            obtain rfl : g = wc.heap.size := HSN.out.1 g (by simp [Value.ownBlock])
            have hs0 := (Kd.R_celln false HSN.out x q0 (by omega))
            rw [seenL_rd q0 q1, decide_eq_false q2] at hs0
            have hs0 := hs0.1
            have f1 : decide (x < 0) = false := decide_eq_false (by omega)
            have f2 : decide ((body.length : Int) ≤ x) = false := decide_eq_false (by omega)
            have f3 : decide (x ≥ (body.length : Int)) = false := decide_eq_false (by omega)
            have p1 : (0 ≤ x) = True := eq_true q0
            have p2 : (x < (body.length : Int)) = True := eq_true q1
            have p3 : (i < l.length) = True := eq_true hlt
            have p4 : ((i : Int) < (l.length : Int)) = True := eq_true (by omega)
            clear q2 q3 q4 hx
            go_wp2_with fail
            refine start_ (n := 24) (S := fun w' => w'.cell? (ad.add i) = some (.int .i64 x) ∧ w'.cell? ⟨w.heap.size, 3, none⟩ = some (.slice A3 body.length c3) ∧ w'.cell? ⟨wc.heap.size, x.toNat, none⟩ = some (.bool false)) (ds := []) #[false, false, false, false, false, false, false, false, false, false, false, false, false, false, false, false, false, false, false, false, false, false, false, false] (by kernel_rfl) rfl rfl ⟨hx0, x3, hs0⟩ (fun hHeld => ?_)
            have HSN1 := Aside0.mk (Kd.R_below HSN.out (below_drew (Below.refl _ wr)))
            have HL1 := Aside0.mk (Kd.R_below HL.out (below_drew (Below.refl _ wr)))
            have HX1 := Aside0.mk (HX.out.below (below_drew (Below.refl _ wr)))
            have HB1 := Aside0.mk (below_drew HB.out)
            generalize wr.drew = w1 at HSN1 HL1 HX1 HB1 hHeld ⊢
            clear HSN HL HX HB x0 x1 x2 x3 hx0 hs0
            refine pure_ (i := 0) (N := some 53) (v := ?_) (a' := ?_) #[true, false, false, false, false, false, false, false, false, false, false, false, false, false, false, false, false, false, false, false, false, false, false, false] rfl rfl (by kernel_rfl) (fun _ _ _ h => h) (Or.inl ⟨by rfl, ?_⟩) ?_ ?_
            rotate_left
            · intro w'
              go_simp
              with_reducible rfl
            rotate_left
            · simp only [Act.put, List.setIfInBounds_toArray, List.set_cons_zero, List.set_cons_succ, i64_w, i32_w]
              rfl
            refine pure_ (i := 1) (N := some 54) (v := ?_) (a' := ?_) #[true, true, false, false, false, false, false, false, false, false, false, false, false, false, false, false, false, false, false, false, false, false, false, false] rfl rfl (by kernel_rfl) (fun _ _ _ h => h) (Or.inl ⟨by rfl, ?_⟩) ?_ ?_
            rotate_left
            · intro w'
              go_simp
              with_reducible rfl
            rotate_left
            · simp only [Act.put, List.setIfInBounds_toArray, List.set_cons_zero, List.set_cons_succ, i64_w, i32_w]
              rfl
            refine pure_ (i := 2) (N := some 55) (v := ?_) (a' := ?_) #[true, true, true, false, false, false, false, false, false, false, false, false, false, false, false, false, false, false, false, false, false, false, false, false] rfl rfl (by kernel_rfl) (fun _ _ _ h => h) (Or.inl ⟨by rfl, ?_⟩) ?_ ?_
            rotate_left
            · intro w'
              go_simp
              with_reducible rfl
            rotate_left
            · simp only [Act.put, List.setIfInBounds_toArray, List.set_cons_zero, List.set_cons_succ, i64_w, i32_w]
              rfl
            refine take_ (i := 3) (N := some 56) (v := ?_) (a' := ?_) #[true, true, true, true, false, false, false, false, false, false, false, false, false, false, false, false, false, false, false, false, false, false, false, false] rfl rfl (by kernel_rfl) (fun _ _ _ h => h) (Or.inl ⟨by rfl, ?_⟩) hHeld ?_ ?_
            rotate_left
            · rintro w' ⟨s0, s1, s2⟩
              go_simp
              with_reducible rfl
            rotate_left
            · simp only [Act.put, List.setIfInBounds_toArray, List.set_cons_zero, List.set_cons_succ, i64_w, i32_w]
              rfl
            refine pure_ (i := 4) (N := some 57) (v := ?_) (a' := ?_) #[true, true, true, true, true, false, false, false, false, false, false, false, false, false, false, false, false, false, false, false, false, false, false, false] rfl rfl (by kernel_rfl) (fun _ _ _ h => h) (Or.inl ⟨by rfl, ?_⟩) ?_ ?_
            rotate_left
            · intro w'
              go_simp
              with_reducible rfl
            rotate_left
            · simp only [Act.put, List.setIfInBounds_toArray, List.set_cons_zero, List.set_cons_succ, i64_w, i32_w]
              rfl
            refine pure_ (i := 5) (N := some 58) (v := ?_) (a' := ?_) #[true, true, true, true, true, true, false, false, false, false, false, false, false, false, false, false, false, false, false, false, false, false, false, false] rfl rfl (by kernel_rfl) (fun _ _ _ h => h) (Or.inl ⟨by rfl, ?_⟩) ?_ ?_
            rotate_left
            · intro w'
              go_simp
              with_reducible rfl
            rotate_left
            · simp only [Act.put, List.setIfInBounds_toArray, List.set_cons_zero, List.set_cons_succ, i64_w, i32_w]
              rfl
            refine pure_ (i := 6) (N := some 59) (v := ?_) (a' := ?_) #[true, true, true, true, true, true, true, false, false, false, false, false, false, false, false, false, false, false, false, false, false, false, false, false] rfl rfl (by kernel_rfl) (fun _ _ _ h => h) (Or.inl ⟨by rfl, ?_⟩) ?_ ?_
            rotate_left
            · intro w'
              go_simp
              with_reducible rfl
            rotate_left
            · simp only [Act.put, List.setIfInBounds_toArray, List.set_cons_zero, List.set_cons_succ, i64_w, i32_w]
              rfl
            refine pure_ (i := 7) (N := some 60) (v := ?_) (a' := ?_) #[true, true, true, true, true, true, true, true, false, false, false, false, false, false, false, false, false, false, false, false, false, false, false, false] rfl rfl (by kernel_rfl) (fun _ _ _ h => h) (Or.inl ⟨by rfl, ?_⟩) ?_ ?_
            rotate_left
            · intro w'
              go_simp
              with_reducible rfl
            rotate_left
            · simp only [Act.put, List.setIfInBounds_toArray, List.set_cons_zero, List.set_cons_succ, i64_w, i32_w]
              rfl
            refine pure_ (i := 8) (N := some 61) (v := ?_) (a' := ?_) #[true, true, true, true, true, true, true, true, true, false, false, false, false, false, false, false, false, false, false, false, false, false, false, false] rfl rfl (by kernel_rfl) (fun _ _ _ h => h) (Or.inl ⟨by rfl, ?_⟩) ?_ ?_
            rotate_left
            · intro w'
              go_simp
              with_reducible rfl
            rotate_left
            · simp only [Act.put, List.setIfInBounds_toArray, List.set_cons_zero, List.set_cons_succ, i64_w, i32_w]
              rfl
            refine take_ (i := 9) (N := some 62) (v := ?_) (a' := ?_) #[true, true, true, true, true, true, true, true, true, true, false, false, false, false, false, false, false, false, false, false, false, false, false, false] rfl rfl (by kernel_rfl) (fun _ _ _ h => h) (Or.inl ⟨by rfl, ?_⟩) hHeld ?_ ?_
            rotate_left
            · rintro w' ⟨s0, s1, s2⟩
              go_simp
              with_reducible rfl
            rotate_left
            · simp only [Act.put, List.setIfInBounds_toArray, List.set_cons_zero, List.set_cons_succ, i64_w, i32_w]
              rfl
            refine pure_ (i := 10) (N := some 63) (v := ?_) (a' := ?_) #[true, true, true, true, true, true, true, true, true, true, true, false, false, false, false, false, false, false, false, false, false, false, false, false] rfl rfl (by kernel_rfl) (fun _ _ _ h => h) (Or.inl ⟨by rfl, ?_⟩) ?_ ?_
            rotate_left
            · intro w'
              go_simp
              with_reducible rfl
            rotate_left
            · simp only [Act.put, List.setIfInBounds_toArray, List.set_cons_zero, List.set_cons_succ, i64_w, i32_w]
              rfl
            refine take_ (i := 11) (N := some 64) (v := ?_) (a' := ?_) #[true, true, true, true, true, true, true, true, true, true, true, true, false, false, false, false, false, false, false, false, false, false, false, false] rfl rfl (by kernel_rfl) (fun _ _ _ h => h) (Or.inl ⟨by rfl, ?_⟩) hHeld ?_ ?_
            rotate_left
            · rintro w' ⟨s0, s1, s2⟩
              go_simp
              with_reducible rfl
            rotate_left
            · simp only [Act.put, List.setIfInBounds_toArray, List.set_cons_zero, List.set_cons_succ, i64_w, i32_w]
              rfl
            refine pure_ (i := 12) (N := some 65) (v := ?_) (a' := ?_) #[true, true, true, true, true, true, true, true, true, true, true, true, true, false, false, false, false, false, false, false, false, false, false, false] rfl rfl (by kernel_rfl) (fun _ _ _ h => h) (Or.inl ⟨by rfl, ?_⟩) ?_ ?_
            rotate_left
            · intro w'
              go_simp
              with_reducible rfl
            rotate_left
            · simp only [Act.put, List.setIfInBounds_toArray, List.set_cons_zero, List.set_cons_succ, i64_w, i32_w]
              rfl
            refine pure_ (i := 13) (N := some 66) (v := ?_) (a' := ?_) #[true, true, true, true, true, true, true, true, true, true, true, true, true, true, false, false, false, false, false, false, false, false, false, false] rfl rfl (by kernel_rfl) (fun _ _ _ h => h) (Or.inl ⟨by rfl, ?_⟩) ?_ ?_
            rotate_left
            · intro w'
              go_simp
              with_reducible rfl
            rotate_left
            · simp only [Act.put, List.setIfInBounds_toArray, List.set_cons_zero, List.set_cons_succ, i64_w, i32_w]
              rfl
            refine pure_ (i := 14) (N := some 67) (v := ?_) (a' := ?_) #[true, true, true, true, true, true, true, true, true, true, true, true, true, true, true, false, false, false, false, false, false, false, false, false] rfl rfl (by kernel_rfl) (fun _ _ _ h => h) (Or.inl ⟨by rfl, ?_⟩) ?_ ?_
            rotate_left
            · intro w'
              go_simp
              with_reducible rfl
            rotate_left
            · simp only [Act.put, List.setIfInBounds_toArray, List.set_cons_zero, List.set_cons_succ, i64_w, i32_w]
              rfl
            refine pure_ (i := 15) (N := some 68) (v := ?_) (a' := ?_) #[true, true, true, true, true, true, true, true, true, true, true, true, true, true, true, true, false, false, false, false, false, false, false, false] rfl rfl (by kernel_rfl) (fun _ _ _ h => h) (Or.inl ⟨by rfl, ?_⟩) ?_ ?_
            rotate_left
            · intro w'
              go_simp
              with_reducible rfl
            rotate_left
            · simp only [Act.put, List.setIfInBounds_toArray, List.set_cons_zero, List.set_cons_succ, i64_w, i32_w]
              rfl
            refine pure_ (i := 16) (N := some 69) (v := ?_) (a' := ?_) #[true, true, true, true, true, true, true, true, true, true, true, true, true, true, true, true, true, false, false, false, false, false, false, false] rfl rfl (by kernel_rfl) (fun _ _ _ h => h) (Or.inl ⟨by rfl, ?_⟩) ?_ ?_
            rotate_left
            · intro w'
              go_simp
              with_reducible rfl
            rotate_left
            · simp only [Act.put, List.setIfInBounds_toArray, List.set_cons_zero, List.set_cons_succ, i64_w, i32_w]
              rfl
            refine pure_ (i := 17) (N := some 70) (v := ?_) (a' := ?_) #[true, true, true, true, true, true, true, true, true, true, true, true, true, true, true, true, true, true, false, false, false, false, false, false] rfl rfl (by kernel_rfl) (fun _ _ _ h => h) (Or.inl ⟨by rfl, ?_⟩) ?_ ?_
            rotate_left
            · intro w'
              go_simp
              with_reducible rfl
            rotate_left
            · simp only [Act.put, List.setIfInBounds_toArray, List.set_cons_zero, List.set_cons_succ, i64_w, i32_w]
              rfl
            refine pure_ (i := 18) (N := some 71) (v := ?_) (a' := ?_) #[true, true, true, true, true, true, true, true, true, true, true, true, true, true, true, true, true, true, true, false, false, false, false, false] rfl rfl (by kernel_rfl) (fun _ _ _ h => h) (Or.inl ⟨by rfl, ?_⟩) ?_ ?_
            rotate_left
            · intro w'
              go_simp
              with_reducible rfl
            rotate_left
            · simp only [Act.put, List.setIfInBounds_toArray, List.set_cons_zero, List.set_cons_succ, i64_w, i32_w]
              rfl
            refine pure_ (i := 19) (N := some 72) (v := ?_) (a' := ?_) #[true, true, true, true, true, true, true, true, true, true, true, true, true, true, true, true, true, true, true, true, false, false, false, false] rfl rfl (by kernel_rfl) (fun _ _ _ h => h) (Or.inl ⟨by rfl, ?_⟩) ?_ ?_
            rotate_left
            · intro w'
              go_simp
              with_reducible rfl
            rotate_left
            · simp only [Act.put, List.setIfInBounds_toArray, List.set_cons_zero, List.set_cons_succ, i64_w, i32_w]
              rfl
            refine take_ (i := 20) (N := some 73) (v := ?_) (a' := ?_) #[true, true, true, true, true, true, true, true, true, true, true, true, true, true, true, true, true, true, true, true, true, false, false, false] rfl rfl (by kernel_rfl) (fun _ _ _ h => h) (Or.inl ⟨by rfl, ?_⟩) hHeld ?_ ?_
            rotate_left
            · rintro w' ⟨s0, s1, s2⟩
              go_simp
              with_reducible rfl
            rotate_left
            · simp only [Act.put, List.setIfInBounds_toArray, List.set_cons_zero, List.set_cons_succ, i64_w, i32_w]
              rfl
            refine pure_ (i := 21) (N := some 74) (v := ?_) (a' := ?_) #[true, true, true, true, true, true, true, true, true, true, true, true, true, true, true, true, true, true, true, true, true, true, false, false] rfl rfl (by kernel_rfl) (fun _ _ _ h => h) (Or.inl ⟨by rfl, ?_⟩) ?_ ?_
            rotate_left
            · intro w'
              go_simp
              with_reducible rfl
            rotate_left
            · simp only [Act.put, List.setIfInBounds_toArray, List.set_cons_zero, List.set_cons_succ, i64_w, i32_w]
              rfl
            refine take_ (i := 22) (N := some 75) (v := ?_) (a' := ?_) #[true, true, true, true, true, true, true, true, true, true, true, true, true, true, true, true, true, true, true, true, true, true, true, false] rfl rfl (by kernel_rfl) (fun _ _ _ h => h) (Or.inl ⟨by rfl, ?_⟩) hHeld ?_ ?_
            rotate_left
            · rintro w' ⟨s0, s1, s2⟩
              go_simp
              with_reducible rfl
            rotate_left
            · simp only [Act.put, List.setIfInBounds_toArray, List.set_cons_zero, List.set_cons_succ, i64_w, i32_w]
              rfl
            refine pure_ (i := 23) (N := some 76) (v := ?_) (a' := ?_) #[true, true, true, true, true, true, true, true, true, true, true, true, true, true, true, true, true, true, true, true, true, true, true, true] rfl rfl (by kernel_rfl) (fun _ _ _ h => h) (Or.inl ⟨by rfl, ?_⟩) ?_ ?_
            rotate_left
            · intro w'
              go_simp
              with_reducible rfl
            rotate_left
            · simp only [Act.put, List.setIfInBounds_toArray, List.set_cons_zero, List.set_cons_succ, i64_w, i32_w]
              rfl
            refine done_ (by kernel_rfl) ?_
            have HFZ := Aside0.mk (Kd.R_celln false HSN1.out x q0 (by omega)).2
            have HSN2 := Aside0.mk (show Kd.R Kd.bool 4 (w1.setCell ⟨wc.heap.size, x.toNat, none⟩ (.bool true)) w.heap.size (fun k => k = wc.heap.size) (.slice (some ⟨wc.heap.size, 0, none⟩) body.length c7) (seenL body.length (l.take (i + 1))) from by
              have h1 := Kd.R_putn HSN1.out x true
              rw [seenL_set q0 q1] at h1
              have h2 : l.take (i + 1) = l.take i ++ [x] := by rw [List.take_add_one, HXE.out]; simp [rd, hlt]
              rw [h2]
              exact h1)
            have HL2 := Aside0.mk (Kd.R_far HL1.out (p := ⟨wc.heap.size, x.toNat, none⟩) (fun k hk => Nat.ne_of_lt hk) (.bool true))
            have HX2 := Aside0.mk (show RuleAt (w1.setCell ⟨wc.heap.size, x.toNat, none⟩ (.bool true)) w.heap.size a b A2 hd_.length c2 A3 body.length c3 from blk_far HX1.out (show w.heap.size ≠ wc.heap.size from Nat.ne_of_lt HG0.out) _)
            have HB2 := Aside0.mk (show Below w.heap.size w (w1.setCell ⟨wc.heap.size, x.toNat, none⟩ (.bool true)) from below_set HB1.out (Nat.le_of_lt HG0.out))
            obtain ⟨t0, t1, t2⟩ := hHeld
            have hfz := HFZ.out
            go_wp2_with fail
            clear t0 t1 t2 hfz HSN1 HL1 HX1 HB1 HFZ
            generalize w1.setCell ⟨wc.heap.size, x.toNat, none⟩ (.bool true) = w2 at HSN2 HL2 HX2 HB2 ⊢
            refine start_ (n := 8) (S := fun w' => w'.cell? ⟨w.heap.size, 0, none⟩ = some (.int .u8 a) ∧ w'.cell? ⟨w.heap.size, 1, none⟩ = some (.string b) ∧ w'.cell? ⟨w.heap.size, 2, none⟩ = some (.slice A2 hd_.length c2) ∧ w'.cell? ⟨w.heap.size, 3, none⟩ = some (.slice A3 body.length c3)) (ds := []) #[false, false, false, false, false, false, false, false] (by kernel_rfl) rfl rfl ⟨HX2.out.cells.1, HX2.out.cells.2.1, HX2.out.cells.2.2.1, HX2.out.cells.2.2.2⟩ (fun hHeld => ?_)
            have HSN3 := Aside0.mk (Kd.R_below HSN2.out (below_drew (Below.refl _ w2)))
            have HL3 := Aside0.mk (Kd.R_below HL2.out (below_drew (Below.refl _ w2)))
            have HX3 := Aside0.mk (HX2.out.below (below_drew (Below.refl _ w2)))
            have HB3 := Aside0.mk (below_drew HB2.out)
            generalize w2.drew = w3 at HSN3 HL3 HX3 HB3 hHeld ⊢
            clear HSN2 HL2 HX2 HB2
            have HLC := Aside0.mk (Kd.R_reads' HL3.out)
            have p5 : (i ≤ co) = True := eq_true (by have := HLC.out.2.1; omega)
            have p6 : ((i : Int) ≤ (co : Int)) = True := eq_true (by have := HLC.out.2.1; omega)
            refine take_ (i := 0) (N := some 83) (v := ?_) (a' := ?_) #[true, false, false, false, false, false, false, false] rfl rfl (by kernel_rfl) (fun _ _ _ h => h) (Or.inl ⟨by rfl, ?_⟩) hHeld ?_ ?_
            rotate_left
            · rintro w' ⟨s0, s1, s2, s3⟩
              go_simp
              with_reducible rfl
            rotate_left
            · simp only [Act.put, List.setIfInBounds_toArray, List.set_cons_zero, List.set_cons_succ, i64_w, i32_w]
              rfl
            refine pure_ (i := 2) (N := some 85) (v := ?_) (a' := ?_) #[true, false, true, false, false, false, false, false] rfl rfl (by kernel_rfl) (fun _ _ _ h => h) (Or.inl ⟨by rfl, ?_⟩) ?_ ?_
            rotate_left
            · intro w'
              go_simp
              with_reducible rfl
            rotate_left
            · simp only [Act.put, List.setIfInBounds_toArray, List.set_cons_zero, List.set_cons_succ, i64_w, i32_w]
              rfl
            refine pure_ (i := 3) (N := some 86) (v := ?_) (a' := ?_) #[true, false, true, true, false, false, false, false] rfl rfl (by kernel_rfl) (fun _ _ _ h => h) (Or.inl ⟨by rfl, ?_⟩) ?_ ?_
            rotate_left
            · intro w'
              go_simp
              with_reducible rfl
            rotate_left
            · simp only [Act.put, List.setIfInBounds_toArray, List.set_cons_zero, List.set_cons_succ, i64_w, i32_w]
              rfl
            refine pure_ (i := 4) (N := some 87) (v := ?_) (a' := ?_) #[true, false, true, true, true, false, false, false] rfl rfl (by kernel_rfl) (fun _ _ _ h => h) (Or.inl ⟨by rfl, ?_⟩) ?_ ?_
            rotate_left
            · intro w'
              go_simp
              with_reducible rfl
            rotate_left
            · simp only [Act.put, List.setIfInBounds_toArray, List.set_cons_zero, List.set_cons_succ, i64_w, i32_w]
              rfl
            refine one_ (i := 1) (N := some 84) #[true, true, true, true, true, false, false, false] rfl rfl (by kernel_rfl) (by decide) (fun K hK => ?_)
            refine Kd.R_lit_step (Kd.int .i64) (w0 := w) w.heap.size 3 (by rfl) (N := 84) rfl (xs := ([] : List Int)) (inner := []) (ok := fun k => w3.heap.size ≤ k) (okp := fun _ => False) ?hr (Reps.none _ _) (fun _ hk => hk.elim) (Nat.le_refl _) HB3.out HB3.out.size (by simp) ?_
            (case hr => first | (go_simp; done) | (go_simp; rfl))
            intro v4 w4 ho hb hg hat
            have HSZ4 := Aside0.mk (show w3.heap.size ≤ w4.heap.size from hg.size)
            have HX4 := Aside0.mk (show RuleAt w4 w.heap.size a b A2 hd_.length c2 A3 body.length c3 from blk_grown HX3.out hg (by simp))
            have HSN4 := Aside0.mk (Kd.R_grown HSN3.out hg (fun _ _ => by simp))
            have HL4 := Aside0.mk (Kd.R_grown HL3.out hg (fun _ _ => by simp))
            have HB4 := Aside0.mk hb
            have HO4 := Aside0.mk ho
            have HOW := Aside0.mk (show ∀ j, v4.ownBlock = some j → w3.heap.size ≤ j from ho.1)
            have HG1 := Aside0.mk (show wc.heap.size < w3.heap.size from by obtain ⟨g, cg, eg, _, hg2, _⟩ := Kd.R_form HSN3.out (by rw [seenL_len]; omega); have := HSN3.out.1 g (by rw [eg]; simp [Value.ownBlock]); omega)
            obtain ⟨A4, c4, ev⟩ := Kd.R_slice ho
            subst ev
            clear ho hb hg hat HX3 HB3 HSN3 HL3
            refine hK.out _ _ ⟨HX4.out.cells.1, HX4.out.cells.2.1, HX4.out.cells.2.2.1, HX4.out.cells.2.2.2⟩ (fun hHeld => ?_)
            clear hK K
            refine norm_ (a' := ?_) ?_ ?_
            rotate_left
            · show Act.put _ (some 84) _ = _
              simp only [Act.put, List.setIfInBounds_toArray, List.set_cons_zero, List.set_cons_succ, i64_w, i32_w]
              rfl
            refine one_ (i := 5) (N := some 88) #[true, true, true, true, true, true, false, false] rfl rfl (by kernel_rfl) (by decide) (fun K hK => ?_)
            refine Kd.R_append_rows_step (Kd.int .i64) (w0 := w) w.heap.size (by rfl) (.tmp 84) (.tmp 87) 29 3 (.int .i64 0) 8 rfl Try.underlying29 info3 rfl (by decide) (by omega) (.slice A4 ([] : List Int).length c4) [] (l.take i) (some ad) i co (fun k => w3.heap.size ≤ k) (fun _ => False) rfl rfl ?aO ?aC (fun _ _ h => h) (fun _ hk => hk.elim) ?aF HB4.out HB4.out.size ?aL ?_
            (case aO => exact HO4.out)
            (case aC => have := Kd.C_take (Kd.R_reads' HL4.out).2.2 (show i ≤ l.length by omega); rw [List.length_take, Nat.min_eq_left (by omega)] at this; exact this)
            (case aF => exact fun k hk => by have := HSZ4.out; omega)
            (case aL => have := HLL.out; simp; omega)
            intro v5 w5 ho hb hg hat
            have HX5 := Aside0.mk (show RuleAt w5 w.heap.size a b A2 hd_.length c2 A3 body.length c3 from blk_grown HX4.out hg (fun he => by have h1 := HOW.out _ he.symm; have h2 := HG0.out; have h3 := HG1.out; omega))
            have HSN5 := Aside0.mk (Kd.R_grown HSN4.out hg (fun k hk he => by have h1 := HOW.out _ he.symm; have h3 := HG1.out; omega))
            have HL5 := Aside0.mk (Kd.R_grown HL4.out hg (fun k hk he => by have h1 := HOW.out _ he.symm; have h3 := HG1.out; omega))
            have HB5 := Aside0.mk hb
            obtain ⟨A5, c5, ev⟩ := Kd.R_slice ho
            subst ev
            have hlt5 : (([] : List Int) ++ l.take i).length = i := by rw [List.nil_append, List.length_take]; omega
            have HP5 := Aside0.mk (show i ≤ c5 ∧ Kd.C (Kd.int .i64) w5 A5 (l.take i).length (l.take i) from by have h1 := (Kd.R_reads' ho).2; rw [hlt5] at h1; rw [List.length_take, Nat.min_eq_left (by omega)]; exact h1)
            rw [hlt5]
            clear ho hb hg hat HX4 HB4 HSN4 HL4 HO4 HOW hlt5
            refine hK.out _ _ ⟨HX5.out.cells.1, HX5.out.cells.2.1, HX5.out.cells.2.2.1, HX5.out.cells.2.2.2⟩ (fun hHeld => ?_)
            clear hK K
            refine norm_ (a' := ?_) ?_ ?_
            rotate_left
            · show Act.put _ (some 88) _ = _
              simp only [Act.put, List.setIfInBounds_toArray, List.set_cons_zero, List.set_cons_succ, i64_w, i32_w]
              rfl
            refine one_ (i := 6) (N := some 89) #[true, true, true, true, true, true, true, false] rfl rfl (by kernel_rfl) (by decide) (fun K hK => ?_)
            refine goes_ Try.func16 (by kernel_rfl) rfl #[.agg #[.int .u8 a, .string b, .slice A2 hd_.length c2, .slice A3 body.length c3], .slice A5 i c5] (by rfl) rfl rfl (by (try simp only [List.map_toArray, List.map_cons, List.map_nil]); first | done | rfl) ?_
            have hti : (l.take i).length = i := by rw [List.length_take]; omega
            have hbo := plan_Bound.calls 200000000 a b A2 c2 hd_ A3 c3 body A5 c5 (l.take i) (boundP body (l.take i)) w5 (Kd.C_below H2.out.1 HB5.out) H2.out.2.1 (Kd.C_below H2.out.2.2.1 HB5.out) H2.out.2.2.2 HP5.out.2 (by rw [hti]; exact HP5.out.1) (bound_f HSm.out a b hd_ (l.take i) (by rw [hti]; have := HLL.out; omega) (Nat.le_refl _))
            rw [hti] at hbo
            refine hbo.mono ?_
            rintro e w6' ⟨vv, rfl, hr, hb⟩
            refine ⟨_, rfl, ?_⟩
            obtain ⟨Ab, cb, ev⟩ := Kd.R_slice hr
            subst ev
            have HH6 := Aside0.mk (Kd.R_reads' hr).2
            have HX6 := Aside0.mk (HX5.out.below hb)
            have HSN6 := Aside0.mk (Kd.R_below HSN5.out hb)
            have HL6 := Aside0.mk (Kd.R_below HL5.out hb)
            have HB6 := Aside0.mk (below_step HB5.out hb)
            clear hr hb hbo HX5 HB5 HSN5 HL5 HP5
            refine hK.out _ _ ⟨HX6.out.cells.1, HX6.out.cells.2.1, HX6.out.cells.2.2.1, HX6.out.cells.2.2.2⟩ (fun hHeld => ?_)
            clear hK K
            refine norm_ (a' := ?_) ?_ ?_
            rotate_left
            · show Act.put _ (some 89) _ = _
              simp only [Act.put, List.setIfInBounds_toArray, List.set_cons_zero, List.set_cons_succ, i64_w, i32_w]
              rfl
            refine pure_ (i := 7) (N := some 9) (v := ?_) (a' := ?_) #[true, true, true, true, true, true, true, true] rfl rfl (by kernel_rfl) (fun _ _ _ h => h) (Or.inl ⟨by rfl, ?_⟩) ?_ ?_
            rotate_left
            · intro w'
              go_simp
              with_reducible rfl
            rotate_left
            · simp only [Act.put, List.setIfInBounds_toArray, List.set_cons_zero, List.set_cons_succ, i64_w, i32_w]
              rfl
            refine done_ (by kernel_rfl) ?_
            clear hHeld
            go_wp2_with fail
            obtain ⟨adb, Ay, cy, ea, hy0, hy1, hy2, hly, hCy⟩ := at_T24 H2.out.2.2.1 x q0 q1
            cases ea
            have hlm := HSm.out.2 x q0 q1
            obtain ⟨y, hy⟩ : ∃ y, y = rd_T24 body x := ⟨_, rfl⟩
            rw [← hy] at hy0 hy1 hy2 hly hCy hlm
            have HYE := Aside0.mk hy
            have HCY := Aside0.mk (And.intro hly (And.intro hCy hlm))
            have hb7 := below_drew HB6.out
            have hy0 := pw_cell_below hb7 hy0
            have hy1 := pw_cell_below hb7 hy1
            have hy2 := pw_cell_below hb7 hy2
            obtain ⟨ad', ea', hl0⟩ := Kd.at_int (Kd.R_reads' HL6.out).2.2 (i : Int) (by omega) (by omega)
            cases ea'
            rw [Int.toNat_natCast, ← HXE.out] at hl0
            clear hy hly hCy hlm hb7 p5 p6 HLC
            refine start_ (n := 10) (S := fun w' => w'.cell? (ad.add i) = some (.int .i64 x) ∧ w'.cell? ⟨w.heap.size, 3, none⟩ = some (.slice (some adb) body.length c3) ∧ w'.cell? (adb.add (x.toNat * 3)) = some (.int .u8 y.f0) ∧ w'.cell? ⟨(adb.add (x.toNat * 3)).block, (adb.add (x.toNat * 3)).off + 1, none⟩ = some (.string y.f1) ∧ w'.cell? ⟨(adb.add (x.toNat * 3)).block, (adb.add (x.toNat * 3)).off + 2, none⟩ = some (.slice Ay y.f2.length cy)) (ds := [9]) #[false, false, false, false, false, false, false, false, false, false] (by kernel_rfl) rfl rfl ⟨hl0, HX6.out.cells.2.2.2, hy0, hy1, hy2⟩ (fun hHeld => ?_)
            have HSN7 := Aside0.mk (Kd.R_below HSN6.out (below_drew (Below.refl _ w6')))
            have HL7 := Aside0.mk (Kd.R_below HL6.out (below_drew (Below.refl _ w6')))
            have HX7 := Aside0.mk (HX6.out.below (below_drew (Below.refl _ w6')))
            have HB7 := Aside0.mk (below_drew HB6.out)
            have HH7 := Aside0.mk (And.intro HH6.out.1 (Kd.C_below HH6.out.2 (below_drew (Below.refl _ w6'))))
            generalize w6'.drew = w7 at HSN7 HL7 HX7 HB7 HH7 hHeld hy0 hy1 hy2 ⊢
            clear HSN6 HL6 HX6 HB6 HH6 hl0
            refine pure_ (i := 0) (N := some 90) (v := ?_) (a' := ?_) #[true, false, false, false, false, false, false, false, false, false] rfl rfl (by kernel_rfl) (fun _ _ _ h => h) (Or.inl ⟨by rfl, ?_⟩) ?_ ?_
            rotate_left
            · intro w'
              go_simp
              with_reducible rfl
            rotate_left
            · simp only [Act.put, List.setIfInBounds_toArray, List.set_cons_zero, List.set_cons_succ, i64_w, i32_w]
              rfl
            refine pure_ (i := 2) (N := some 92) (v := ?_) (a' := ?_) #[true, false, true, false, false, false, false, false, false, false] rfl rfl (by kernel_rfl) (fun _ _ _ h => h) (Or.inl ⟨by rfl, ?_⟩) ?_ ?_
            rotate_left
            · intro w'
              go_simp
              with_reducible rfl
            rotate_left
            · simp only [Act.put, List.setIfInBounds_toArray, List.set_cons_zero, List.set_cons_succ, i64_w, i32_w]
              rfl
            refine pure_ (i := 3) (N := some 93) (v := ?_) (a' := ?_) #[true, false, true, true, false, false, false, false, false, false] rfl rfl (by kernel_rfl) (fun _ _ _ h => h) (Or.inl ⟨by rfl, ?_⟩) ?_ ?_
            rotate_left
            · intro w'
              go_simp
              with_reducible rfl
            rotate_left
            · simp only [Act.put, List.setIfInBounds_toArray, List.set_cons_zero, List.set_cons_succ, i64_w, i32_w]
              rfl
            refine take_ (i := 1) (N := some 91) (v := ?_) (a' := ?_) #[true, true, true, true, false, false, false, false, false, false] rfl rfl (by kernel_rfl) (fun _ _ _ h => h) (Or.inl ⟨by rfl, ?_⟩) hHeld ?_ ?_
            rotate_left
            · rintro w' ⟨s0, s1, s2, s3, s4⟩
              go_simp
              with_reducible rfl
            rotate_left
            · simp only [Act.put, List.setIfInBounds_toArray, List.set_cons_zero, List.set_cons_succ, i64_w, i32_w]
              rfl
            refine pure_ (i := 4) (N := some 94) (v := ?_) (a' := ?_) #[true, true, true, true, true, false, false, false, false, false] rfl rfl (by kernel_rfl) (fun _ _ _ h => h) (Or.inl ⟨by rfl, ?_⟩) ?_ ?_
            rotate_left
            · intro w'
              go_simp
              with_reducible rfl
            rotate_left
            · simp only [Act.put, List.setIfInBounds_toArray, List.set_cons_zero, List.set_cons_succ, i64_w, i32_w]
              rfl
            refine take_ (i := 5) (N := some 95) (v := ?_) (a' := ?_) #[true, true, true, true, true, true, false, false, false, false] rfl rfl (by kernel_rfl) (fun _ _ _ h => h) (Or.inl ⟨by rfl, ?_⟩) hHeld ?_ ?_
            rotate_left
            · rintro w' ⟨s0, s1, s2, s3, s4⟩
              go_simp
              with_reducible rfl
            rotate_left
            · simp only [Act.put, List.setIfInBounds_toArray, List.set_cons_zero, List.set_cons_succ, i64_w, i32_w]
              rfl
            refine pure_ (i := 6) (N := some 96) (v := ?_) (a' := ?_) #[true, true, true, true, true, true, true, false, false, false] rfl rfl (by kernel_rfl) (fun _ _ _ h => h) (Or.inl ⟨by rfl, ?_⟩) ?_ ?_
            rotate_left
            · intro w'
              go_simp
              with_reducible rfl
            rotate_left
            · simp only [Act.put, List.setIfInBounds_toArray, List.set_cons_zero, List.set_cons_succ, i64_w, i32_w]
              rfl
            refine take_ (i := 7) (N := some 97) (v := ?_) (a' := ?_) #[true, true, true, true, true, true, true, true, false, false] rfl rfl (by kernel_rfl) (fun _ _ _ h => h) (Or.inl ⟨by rfl, ?_⟩) hHeld ?_ ?_
            rotate_left
            · rintro w' ⟨s0, s1, s2, s3, s4⟩
              go_simp
              with_reducible rfl
            rotate_left
            · simp only [Act.put, List.setIfInBounds_toArray, List.set_cons_zero, List.set_cons_succ, i64_w, i32_w]
              rfl
            refine one_ (i := 8) (N := some 10) #[true, true, true, true, true, true, true, true, true, false] rfl rfl (by kernel_rfl) (by decide) (fun K hK => ?_)
            refine value_ (w1 := ?_) (v := ?_) (by rfl) rfl ?_ ?_
            rotate_left 2
            · go_simp
              constructor
              · rfl
              · rfl
            have hba := below_alloc (Below.refl w7.heap.size w7) (.cells #[.int .u8 0, .string ⟨#[]⟩, .slice none 0 0] 24)
            have HN8 := Aside0.mk (blk_new w7 (.cells #[.int .u8 0, .string ⟨#[]⟩, .slice none 0 0] 24))
            refine hK.out _ _ ⟨pw_cell_below hba hHeld.1, pw_cell_below hba hHeld.2.1, pw_cell_below hba hHeld.2.2.1, pw_cell_below hba hHeld.2.2.2.1, pw_cell_below hba hHeld.2.2.2.2⟩ (fun hHeld => ?_)
            clear hK K
            refine norm_ (a' := ?_) ?_ ?_
            rotate_left
            · show Act.put _ (some 10) _ = _
              simp only [Act.put, List.setIfInBounds_toArray, List.set_cons_zero, List.set_cons_succ, i64_w, i32_w]
              rfl
            refine last_ (i := 9) (N := none) #[true, true, true, true, true, true, true, true, true, true] rfl rfl (by kernel_rfl) (by decide) (fun K hK => ?_)
            have g0 := blk_cell HN8.out 0
            have g1 := blk_cell HN8.out 1
            have g2 := blk_cell HN8.out 2
            have z0 := blk_frozen HN8.out 0
            have z1 := blk_frozen HN8.out 1
            have z2 := blk_frozen HN8.out 2
            refine skip_ (w1 := ?_) (by rfl) rfl ?_ ?_
            rotate_left
            · go_simp
              rfl
            refine hK.out _ _ ?_
            clear hK K g0 g1 g2 z0 z1 z2 HN8 hba hHeld
            refine done_ (by kernel_rfl) ?_
            have hba := below_alloc (Below.refl w7.heap.size w7) (.cells #[.int .u8 y.f0, .string y.f1, .slice Ay y.f2.length cy] 24)
            have HSN8 := Aside0.mk (Kd.R_below HSN7.out hba)
            have HL8 := Aside0.mk (Kd.R_below HL7.out hba)
            have HX8 := Aside0.mk (HX7.out.below hba)
            have HB8 := Aside0.mk (below_step HB7.out hba)
            have HH8 := Aside0.mk (And.intro HH7.out.1 (Kd.C_below HH7.out.2 hba))
            have HBX := Aside0.mk (blk_new w7 (.cells #[.int .u8 y.f0, .string y.f1, .slice Ay y.f2.length cy] 24))
            generalize w7.alloc (.cells #[.int .u8 y.f0, .string y.f1, .slice Ay y.f2.length cy] 24) = w8 at HSN8 HL8 HX8 HB8 HH8 HBX ⊢
            clear hba HSN7 HL7 HX7 HB7 HH7 hy0 hy1 hy2
            have HNX := Aside0.mk (fun (w' : World) (h : Below w8.heap.size w8 w') => And.intro (Kd.R_below HSN8.out h) (And.intro (Kd.R_below HL8.out h) (And.intro (HX8.out.below h) (below_step HB8.out h))))
            have HTI := Aside0.mk (show (l.take i).length = i by rw [List.length_take]; omega)
            have HBL := Aside0.mk (show (boundP body (l.take i)).length ≤ 104857600 from boundP_len HSm.out (by rw [HTI.out]; have := HLL.out; omega))
            have hbx0 := blk_cell HBX.out 0
            have hbx1 := blk_cell HBX.out 1
            have hbx2 := blk_cell HBX.out 2
            by_cases hk1 : y.f0 = 1
            · have HK1 := Aside0.mk hk1
              have fk : (y.f0 == 1) = true := by rw [hk1]; rfl
              clear hk1
              go_wp2_with fail
              go_loopw [11] (fun v11 wr => ∃ j : Nat, j ≤ body.length ∧ v11 = .int .i64 j ∧ Aside0 (Below w8.heap.size w8 wr)) (fun v11 _ => body.length - (intOf v11).toNat)
              case atStart => exact ⟨0, by omega, rfl, ⟨Below.refl _ _⟩⟩
              case round => as_aux_lemma =>
                obtain ⟨j, hjl, rfl, HQ⟩ := hrel
                obtain ⟨x0, x1, x2, x3⟩ := (HX8.out.below HQ.out).cells
                by_cases hjj : j < body.length
                · have fj : decide ((j : Int) < (body.length : Int)) = true := decide_eq_true (by omega)
                  by_cases hi0 : 0 < i
                  · have fi : decide ((0 : Int) < (i : Int)) = true := decide_eq_true (by omega)
                    have fi2 : decide (0 < i) = true := decide_eq_true hi0
                    have hs0 := (Kd.R_celln false (Kd.R_below HSN8.out HQ.out) (j : Int) (by omega) (by omega)).1
                    rw [seenL_rd (by omega) (by omega), Int.toNat_natCast] at hs0
                    obtain ⟨ad2, Az, cz, ea, hz0, hz1, hz2, hlz, hCz⟩ := at_T24 H2.out.2.2.1 (j : Int) (by omega) (by omega)
                    cases ea
                    have hlmz := HSm.out.2 (j : Int) (by omega) (by omega)
                    obtain ⟨z, hz⟩ : ∃ z, z = rd_T24 body (j : Int) := ⟨_, rfl⟩
                    simp only [Int.toNat_natCast] at hz0 hz1 hz2
                    rw [← hz] at hz0 hz1 hz2 hlz hCz hlmz
                    have HZE := Aside0.mk hz
                    have HCZ := Aside0.mk (And.intro hlz (And.intro hCz hlmz))
                    have HBw := Aside0.mk (below_step HB8.out HQ.out)
                    have hz0 := pw_cell_below HBw.out hz0
                    have hz1 := pw_cell_below HBw.out hz1
                    have hz2 := pw_cell_below HBw.out hz2
                    have p5 : (j < body.length) = True := eq_true hjj
                    have p6 : ((j : Int) < (body.length : Int)) = True := eq_true (by omega)
                    clear hz hlz hCz hlmz
                    by_cases hs : (j : Int) ∈ l.take (i + 1)
                    · rw [decide_eq_true hs] at hs0
                      go_wp2
                      go_roundw
                      case measure => simp [intOf]; omega
                      case rel => exact ⟨j + 1, by omega, by go_num, HQ⟩
                    · rw [decide_eq_false hs] at hs0
                      have HS := Aside0.mk hs
                      clear hs
                      by_cases hkj : z.f0 = 1
                      · have fz : (z.f0 == 1) = true := by rw [hkj]; rfl
                        go_wp2
                        go_roundw
                        case measure => simp [intOf]; omega
                        case rel => exact ⟨j + 1, by omega, by go_num, HQ⟩
                      · have fz : (z.f0 == 1) = false := by rw [beq_eq_false_iff_ne]; exact hkj
                        have HKJ := Aside0.mk hkj
                        clear hkj
                        have HEX := Aside0.mk (show ∃ v ∈ varsP z.f2, v ∉ boundP body (l.take i) from by
                          have h2 : (j : Int) ∉ l.take i := fun h => HS.out (by rw [List.take_add_one]; exact List.mem_append_left _ h)
                          have h3 := HQ4.out (by rw [← HYE.out]; exact HK1.out) (fun h => by have := HTI.out; rw [h] at this; simp at this; omega) j hjj h2 (by rw [← HZE.out]; exact HKJ.out)
                          rw [← HZE.out] at h3
                          exact h3)
                        go_wp2_with fail
                        refine (plan_Vars.calls 4000000 z.f0 z.f1 _ _ z.f2 (varsP z.f2) _ (Kd.C_below HCZ.out.2.1 HBw.out) HCZ.out.1 (vars_f z.f0 z.f1 z.f2 HCZ.out.2.2 (by decide))).mono ?_
                        rintro e wv ⟨vv, rfl, hr, hb⟩
                        obtain ⟨Av, cv, ev⟩ := Kd.R_slice hr
                        subst ev
                        have HV := Aside0.mk (Kd.R_reads' hr).2
                        have HQv := Aside0.mk (below_step HQ.out hb)
                        have HVL := Aside0.mk (show (varsP z.f2).length ≤ 1048576 from Nat.le_trans (varsP_len _) HCZ.out.2.2)
                        clear hr hb x0 x1 x2 x3 hs0 hz0 hz1 hz2
                        go_wp2_with fail
                        go_loopw [12, 14] (fun v12 v14 wr => ∃ n : Nat, n ≤ (varsP z.f2).length ∧ v14 = .int .i64 n ∧ v12 = .bool (((varsP z.f2).take n).any fun s => !decide (s ∈ boundP body (l.take i))) ∧ Aside0 (Below wv.heap.size wv wr)) (fun _ v14 _ => (varsP z.f2).length - (intOf v14).toNat)
                        case atStart => exact ⟨0, by omega, rfl, rfl, ⟨Below.refl _ _⟩⟩
                        case round => as_aux_lemma =>
                          obtain ⟨n, hnl, rfl, rfl, HQ2⟩ := hrel
                          have hvl := HVL.out
                          by_cases hnn : n < (varsP z.f2).length
                          · have fn : decide ((n : Int) < ((varsP z.f2).length : Int)) = true := decide_eq_true (by omega)
                            obtain ⟨av, ea, hc0⟩ := Kd.at_string (Kd.C_below HV.out.2 HQ2.out) (n : Int) (by omega) (by omega)
                            cases ea
                            rw [Int.toNat_natCast] at hc0
                            obtain ⟨s, hs⟩ : ∃ s, s = rdOf ByteArray.empty (varsP z.f2) (n : Int) := ⟨_, rfl⟩
                            rw [← hs] at hc0
                            have HTK := Aside0.mk (show ((varsP z.f2).take (n + 1)).any (fun s => !decide (s ∈ boundP body (l.take i))) = (((varsP z.f2).take n).any (fun s => !decide (s ∈ boundP body (l.take i))) || !decide (s ∈ boundP body (l.take i))) from by
                              rw [List.take_add_one, List.getElem?_eq_getElem hnn, List.any_append]
                              have : s = (varsP z.f2)[n] := by rw [hs]; simp [rdOf, hnn]
                              rw [this]
                              simp)
                            clear hs
                            have p7 : (n < (varsP z.f2).length) = True := eq_true hnn
                            have p8 : ((n : Int) < ((varsP z.f2).length : Int)) = True := eq_true (by omega)
                            obtain ⟨fr, hfr⟩ : ∃ fr, fr = ((varsP z.f2).take n).any (fun s => !decide (s ∈ boundP body (l.take i))) := ⟨_, rfl⟩
                            rw [← hfr] at HTK ⊢
                            clear hfr
                            cases fr with
                            | true =>
                              go_wp2
                              go_roundw
                              case measure => simp [intOf]; omega
                              case rel => exact ⟨n + 1, by omega, by go_num, by rw [HTK.out]; rfl, HQ2⟩
                            | false =>
                              go_wp2_with fail
                              refine (mandateref13_In.calls 200000000 Ab cb (boundP body (l.take i)) s (decide (s ∈ boundP body (l.take i))) _ (Kd.C_below (Kd.C_below HH8.out.2 HQv.out) HQ2.out) HH8.out.1 (in_f _ _ (by have := HBL.out; omega) (by have := HBL.out; omega))).mono ?_
                              rintro e w10 ⟨rfl, ⟨nd, rfl⟩⟩
                              have HQ3' := Aside0.mk (pw_below_drewN HQ2.out nd)
                              obtain ⟨m, hm⟩ : ∃ m, m = decide (s ∈ boundP body (l.take i)) := ⟨_, rfl⟩
                              rw [← hm] at HTK ⊢
                              clear hm
                              cases m with
                              | true =>
                                go_wp2
                                go_roundw
                                case measure => simp [intOf]; omega
                                case rel => exact ⟨n + 1, by omega, by go_num, by rw [HTK.out]; rfl, HQ3'⟩
                              | false =>
                                go_wp2
                                go_roundw
                                case measure => simp [intOf]; omega
                                case rel => exact ⟨n + 1, by omega, by go_num, by rw [HTK.out]; rfl, HQ3'⟩
                          · have fn : decide ((n : Int) < ((varsP z.f2).length : Int)) = false := decide_eq_false (by omega)
                            have hany : ((varsP z.f2).take n).any (fun s => !decide (s ∈ boundP body (l.take i))) = true := by
                              rw [List.take_of_length_le (by omega), List.any_eq_true]
                              obtain ⟨v, h1, h2⟩ := HEX.out
                              exact ⟨v, h1, by simp [h2]⟩
                            rw [hany]
                            clear hany
                            go_wp2
                            go_roundw
                            case measure => simp [intOf]; omega
                            case rel => exact ⟨j + 1, by omega, by go_num, ⟨below_step HQv.out HQ2.out⟩⟩
                  · have fi : decide ((0 : Int) < (i : Int)) = false := decide_eq_false (by omega)
                    have fi2 : decide (0 < i) = false := decide_eq_false hi0
                    go_wp2
                    go_roundw
                    case measure => have := HLT.out; simp [intOf]; omega
                    case rel => exact ⟨i + 1, HLT.out, by go_num, ⟨(HNX.out _ HQ.out).1⟩, ⟨(HNX.out _ HQ.out).2.1⟩, ⟨(HNX.out _ HQ.out).2.2.1⟩, ⟨(HNX.out _ HQ.out).2.2.2⟩⟩
                · have fj : decide ((j : Int) < (body.length : Int)) = false := decide_eq_false (by omega)
                  go_wp2
                  go_roundw
                  case measure => have := HLT.out; simp [intOf]; omega
                  case rel => exact ⟨i + 1, HLT.out, by go_num, ⟨(HNX.out _ HQ.out).1⟩, ⟨(HNX.out _ HQ.out).2.1⟩, ⟨(HNX.out _ HQ.out).2.2.1⟩, ⟨(HNX.out _ HQ.out).2.2.2⟩⟩
            · have HK1 := Aside0.mk hk1
              have fk : (y.f0 == 1) = false := by rw [beq_eq_false_iff_ne]; exact hk1
              clear hk1
              have HALL := Aside0.mk (show ∀ v ∈ varsP y.f2, v ∈ boundP body (l.take i) from by
                have h3 := HQ3.out (by rw [← HYE.out]; exact HK1.out)
                rw [← HYE.out] at h3
                exact h3)
              go_wp2_with fail
              refine (plan_Vars.calls 4000000 y.f0 y.f1 _ _ y.f2 (varsP y.f2) _ (Kd.C_below HCY.out.2.1 HB8.out) HCY.out.1 (vars_f y.f0 y.f1 y.f2 HCY.out.2.2 (by decide))).mono ?_
              rintro e wv ⟨vv, rfl, hr, hb⟩
              obtain ⟨Av, cv, ev⟩ := Kd.R_slice hr
              subst ev
              have HV := Aside0.mk (Kd.R_reads' hr).2
              have HQv := Aside0.mk hb
              have HVL := Aside0.mk (show (varsP y.f2).length ≤ 1048576 from Nat.le_trans (varsP_len _) HCY.out.2.2)
              clear hr hb hbx0 hbx1 hbx2
              go_wp2_with fail
              go_loopw [16] (fun v16 wr => ∃ n : Nat, n ≤ (varsP y.f2).length ∧ v16 = .int .i64 n ∧ Aside0 (Below wv.heap.size wv wr)) (fun v16 _ => (varsP y.f2).length - (intOf v16).toNat)
              case atStart => exact ⟨0, by omega, rfl, ⟨Below.refl _ _⟩⟩
              case round => as_aux_lemma =>
                obtain ⟨n, hnl, rfl, HQ2⟩ := hrel
                have hvl := HVL.out
                by_cases hnn : n < (varsP y.f2).length
                · have fn : decide ((n : Int) < ((varsP y.f2).length : Int)) = true := decide_eq_true (by omega)
                  obtain ⟨av, ea, hc0⟩ := Kd.at_string (Kd.C_below HV.out.2 HQ2.out) (n : Int) (by omega) (by omega)
                  cases ea
                  rw [Int.toNat_natCast] at hc0
                  obtain ⟨s, hs⟩ : ∃ s, s = rdOf ByteArray.empty (varsP y.f2) (n : Int) := ⟨_, rfl⟩
                  rw [← hs] at hc0
                  have HSM := Aside0.mk (show decide (s ∈ boundP body (l.take i)) = true from decide_eq_true (HALL.out s (by
                    have : s = (varsP y.f2)[n] := by rw [hs]; simp [rdOf, hnn]
                    rw [this]
                    exact List.getElem_mem hnn)))
                  clear hs
                  have p7 : (n < (varsP y.f2).length) = True := eq_true hnn
                  have p8 : ((n : Int) < ((varsP y.f2).length : Int)) = True := eq_true (by omega)
                  go_wp2_with fail
                  refine (mandateref13_In.calls 200000000 Ab cb (boundP body (l.take i)) s true _ (Kd.C_below (Kd.C_below HH8.out.2 HQv.out) HQ2.out) HH8.out.1 (by rw [in_f _ _ (by have := HBL.out; omega) (by have := HBL.out; omega), HSM.out])).mono ?_
                  rintro e w10 ⟨rfl, ⟨nd, rfl⟩⟩
                  have HQ3' := Aside0.mk (pw_below_drewN HQ2.out nd)
                  go_wp2
                  go_roundw
                  case measure => simp [intOf]; omega
                  case rel => exact ⟨n + 1, by omega, by go_num, HQ3'⟩
                · have fn : decide ((n : Int) < ((varsP y.f2).length : Int)) = false := decide_eq_false (by omega)
                  go_wp2
                  go_roundw
                  case measure => have := HLT.out; simp [intOf]; omega
                  case rel => exact ⟨i + 1, HLT.out, by go_num, ⟨(HNX.out _ (below_step HQv.out HQ2.out)).1⟩, ⟨(HNX.out _ (below_step HQv.out HQ2.out)).2.1⟩, ⟨(HNX.out _ (below_step HQv.out HQ2.out)).2.2.1⟩, ⟨(HNX.out _ (below_step HQv.out HQ2.out)).2.2.2⟩⟩
          · have f0 : decide ((i : Int) < (l.length : Int)) = false := decide_eq_false (by omega)
            have e0 : ((l.length : Int) == (body.length : Int)) = true := beq_iff_eq.2 (by have := HLL.out; omega)
            have HB2 := HB
            go_wp2
            go_ret
            exact ⟨rfl, HB2.out⟩
  · have f30 : decide ((30 : Int) < (body.length : Int)) = true := decide_eq_true (by omega)
    go_wp2
    go_ret
    exact ⟨rfl, HB1.out⟩

end Go.Proofs.Ytngamodmbgjajaa.PPlanOrders
