/- PlanVars, walked: it answers true. No condition beyond those each theorem names. -/
import Derived.Test.YtngamodmbgjajaaPlanX
namespace Go.Proofs.Ytngamodmbgjajaa.PPlanOrders
open Go.RowKit Go.Proofs.YtngamodmbgjajaaW.PrintWords Go.Proofs.YtngamodmbgjajaaW.PrintLast Go.Proofs.YtngamodmbgjajaaW.PrintMore
set_option linter.unusedVariables false
set_option linter.unusedSimpArgs false

set_option maxHeartbeats 4000000 in
set_option maxRecDepth 100000 in
theorem Vars_calls (w : World) (a : Int) (b : ByteArray) (A2 : Option Addr) (c2 : Nat) (hd_ : List S50) (h2 : Kd.C k50 w A2 hd_.length hd_) (hc2 : hd_.length ≤ c2) (hh : hd_.length ≤ 1048576) (A3 : Option Addr) (c3 : Nat) (body : List S24) (h3 : Kd.C k24 w A3 body.length body) (hc3 : body.length ≤ c3) (hb : body.length ≤ 30 → Small body) (hbl : body.length ≤ 1000000000)
    (A1 : Option Addr) (c1 : Nat) (l : List Int) (h1 : Kd.C (Kd.int .i64) w A1 l.length l) (hc1 : l.length ≤ c1) (hll : l.length ≤ 1000000000) :
    Calls Try.prog 4 #[.agg #[.int .u8 a, .string b, .slice A2 hd_.length c2, .slice A3 body.length c3], .slice A1 l.length c1] w fun e w' => e = .returned (.bool true) ∧ Below w.heap.size w w' := by
  have HX := Aside0.mk (show RuleAt (w.alloc (.cells #[.int .u8 a, .string b, .slice A2 hd_.length c2, .slice A3 body.length c3] 27)) w.heap.size a b A2 hd_.length c2 A3 body.length c3 from blk_new w _)
  have HB := Aside0.mk (below_alloc (Below.refl w.heap.size w) (.cells #[.int .u8 a, .string b, .slice A2 hd_.length c2, .slice A3 body.length c3] 27))
  have H2 := Aside0.mk (And.intro h2 (And.intro hc2 (And.intro h3 hc3)))
  have HS := Aside0.mk hb
  have HH := Aside0.mk hh
  have HL := Aside0.mk (And.intro h1 hc1)
  clear h2 hc2 hc3 h3 hb hh h1 hc1
  go_enter Try.func4, Try.ntmps4
  go_wp2_with fail
  refine (fixed_calls _).mono ?_
  rintro e w1 ⟨rfl, hb⟩
  have HX1 := Aside0.mk (HX.out.below hb)
  have HB1 := Aside0.mk (below_step HB.out hb)
  clear hb HX HB
  obtain ⟨x0, x1, x2, x3⟩ := HX1.out.cells
  by_cases h30 : body.length ≤ 30
  · have f30 : decide ((30 : Int) < (body.length : Int)) = false := decide_eq_false (by omega)
    have HSm := Aside0.mk (HS.out h30)
    clear HS
    by_cases hl : l.length ≤ 100
    · have f100 : decide ((100 : Int) < (l.length : Int)) = false := decide_eq_false (by omega)
      have HVL := Aside0.mk (Nat.le_trans (varsP_len hd_) HH.out)
      have HBL := Aside0.mk (boundP_len HSm.out hl)
      go_wp2_with fail
      clear x0 x1 x2 x3
      refine start_ (n := 19) (S := fun w' => w'.cell? ⟨w.heap.size, 0, none⟩ = some (.int .u8 a) ∧ w'.cell? ⟨w.heap.size, 1, none⟩ = some (.string b) ∧ w'.cell? ⟨w.heap.size, 2, none⟩ = some (.slice A2 hd_.length c2) ∧ w'.cell? ⟨w.heap.size, 3, none⟩ = some (.slice A3 body.length c3)) (ds := []) #[false, false, false, false, false, false, false, false, false, false, false, false, false, false, false, false, false, false, false] (by kernel_rfl) rfl rfl ⟨HX1.out.cells.1, HX1.out.cells.2.1, HX1.out.cells.2.2.1, HX1.out.cells.2.2.2⟩ (fun hHeld => ?_)
      have HX2 := Aside0.mk (HX1.out.below (below_drew (Below.refl _ w1)))
      have HB2 := Aside0.mk (below_drew HB1.out)
      generalize w1.drew = w2 at HX2 HB2 hHeld ⊢
      clear HX1 HB1
      refine pure_ (i := 0) (N := some 16) (v := ?_) (a' := ?_) #[true, false, false, false, false, false, false, false, false, false, false, false, false, false, false, false, false, false, false] rfl rfl (by kernel_rfl) (fun _ _ _ h => h) (Or.inl ⟨by rfl, ?_⟩) ?_ ?_
      rotate_left
      · intro w'
        go_simp
        with_reducible rfl
      rotate_left
      · simp only [Act.put, List.setIfInBounds_toArray, List.set_cons_zero, List.set_cons_succ, i64_w, i32_w]
        rfl
      refine take_ (i := 1) (N := some 17) (v := ?_) (a' := ?_) #[true, true, false, false, false, false, false, false, false, false, false, false, false, false, false, false, false, false, false] rfl rfl (by kernel_rfl) (fun _ _ _ h => h) (Or.inl ⟨by rfl, ?_⟩) hHeld ?_ ?_
      rotate_left
      · rintro w' ⟨s0, s1, s2, s3⟩
        go_simp
        with_reducible rfl
      rotate_left
      · simp only [Act.put, List.setIfInBounds_toArray, List.set_cons_zero, List.set_cons_succ, i64_w, i32_w]
        rfl
      refine pure_ (i := 3) (N := some 19) (v := ?_) (a' := ?_) #[true, true, false, true, false, false, false, false, false, false, false, false, false, false, false, false, false, false, false] rfl rfl (by kernel_rfl) (fun _ _ _ h => h) (Or.inl ⟨by rfl, ?_⟩) ?_ ?_
      rotate_left
      · intro w'
        go_simp
        with_reducible rfl
      rotate_left
      · simp only [Act.put, List.setIfInBounds_toArray, List.set_cons_zero, List.set_cons_succ, i64_w, i32_w]
        rfl
      refine take_ (i := 4) (N := some 20) (v := ?_) (a' := ?_) #[true, true, false, true, true, false, false, false, false, false, false, false, false, false, false, false, false, false, false] rfl rfl (by kernel_rfl) (fun _ _ _ h => h) (Or.inl ⟨by rfl, ?_⟩) hHeld ?_ ?_
      rotate_left
      · rintro w' ⟨s0, s1, s2, s3⟩
        go_simp
        with_reducible rfl
      rotate_left
      · simp only [Act.put, List.setIfInBounds_toArray, List.set_cons_zero, List.set_cons_succ, i64_w, i32_w]
        rfl
      refine one_ (i := 2) (N := some 18) #[true, true, true, true, true, false, false, false, false, false, false, false, false, false, false, false, false, false, false] rfl rfl (by kernel_rfl) (by decide) (fun K hK => ?_)
      refine goes_ Try.func14 (by kernel_rfl) rfl #[.agg #[.int .u8 a, .string b, .slice A2 hd_.length c2]] (by rfl) rfl rfl (by (try simp only [List.map_toArray, List.map_cons, List.map_nil]); first | done | rfl) ?_
      refine (plan_Vars.calls 4000000 a b A2 c2 hd_ (varsP hd_) w2 (Kd.C_below H2.out.1 HB2.out) H2.out.2.1 (vars_f a b hd_ HH.out (by decide))).mono ?_
      rintro e w3 ⟨vv, rfl, hr, hb⟩
      refine ⟨_, rfl, ?_⟩
      obtain ⟨Av, cv, ev⟩ := Kd.R_slice hr
      subst ev
      have HV3 := Aside0.mk (Kd.R_reads' hr).2
      have HX3 := Aside0.mk (HX2.out.below hb)
      have HB3 := Aside0.mk (below_step HB2.out hb)
      clear hr hb HX2 HB2
      refine hK.out _ _ ⟨HX3.out.cells.1, HX3.out.cells.2.1, HX3.out.cells.2.2.1, HX3.out.cells.2.2.2⟩ (fun hHeld => ?_)
      clear hK K
      refine norm_ (a' := ?_) ?_ ?_
      rotate_left
      · show Act.put _ (some 18) _ = _
        simp only [Act.put, List.setIfInBounds_toArray, List.set_cons_zero, List.set_cons_succ, i64_w, i32_w]
        rfl
      refine one_ (i := 5) (N := some 21) #[true, true, true, true, true, true, false, false, false, false, false, false, false, false, false, false, false, false, false] rfl rfl (by kernel_rfl) (by decide) (fun K hK => ?_)
      refine goes_ Try.func15 (by kernel_rfl) rfl #[.agg #[.int .u8 a, .string b, .slice A2 hd_.length c2]] (by rfl) rfl rfl (by (try simp only [List.map_toArray, List.map_cons, List.map_nil]); first | done | rfl) ?_
      refine (mandateref13_Vars.calls 4000000 a b A2 c2 hd_ (varsP hd_) w3 (Kd.C_below H2.out.1 HB3.out) H2.out.2.1 (rvars_f a b hd_ HH.out (by decide))).mono ?_
      rintro e w4 ⟨vv, rfl, hr, hb⟩
      refine ⟨_, rfl, ?_⟩
      obtain ⟨Au, cu, ev⟩ := Kd.R_slice hr
      subst ev
      have HU4 := Aside0.mk (Kd.R_reads' hr).2
      have HV4 := Aside0.mk (And.intro HV3.out.1 (Kd.C_below HV3.out.2 hb))
      have HX4 := Aside0.mk (HX3.out.below hb)
      have HB4 := Aside0.mk (below_step HB3.out hb)
      clear hr hb HX3 HB3 HV3
      refine hK.out _ _ ⟨HX4.out.cells.1, HX4.out.cells.2.1, HX4.out.cells.2.2.1, HX4.out.cells.2.2.2⟩ (fun hHeld => ?_)
      clear hK K
      refine norm_ (a' := ?_) ?_ ?_
      rotate_left
      · show Act.put _ (some 21) _ = _
        simp only [Act.put, List.setIfInBounds_toArray, List.set_cons_zero, List.set_cons_succ, i64_w, i32_w]
        rfl
      refine one_ (i := 6) (N := some 22) #[true, true, true, true, true, true, true, false, false, false, false, false, false, false, false, false, false, false, false] rfl rfl (by kernel_rfl) (by decide) (fun K hK => ?_)
      refine goes_ Try.func13 (by kernel_rfl) rfl #[.slice Av (varsP hd_).length cv, .slice Au (varsP hd_).length cu] (by rfl) rfl rfl (by (try simp only [List.map_toArray, List.map_cons, List.map_nil]); first | done | rfl) ?_
      refine (mandatelaw13_names.calls 2000000 Av cv (varsP hd_) Au cu (varsP hd_) true w4 HV4.out.2 HV4.out.1 HU4.out.2 HU4.out.1 (by rw [names_f _ _ (by have := HVL.out; omega) (by have := HVL.out; omega), decide_eq_true rfl])).mono ?_
      rintro e w5 ⟨rfl, ⟨nd, rfl⟩⟩
      refine ⟨_, rfl, ?_⟩
      have HX5 := Aside0.mk (HX4.out.below (pw_below_drewN (Below.refl _ w4) nd))
      have HB5 := Aside0.mk (pw_below_drewN HB4.out nd)
      generalize w4.drewN nd = w5 at HX5 HB5 ⊢
      clear HX4 HB4 HV4 HU4
      refine hK.out _ _ ⟨HX5.out.cells.1, HX5.out.cells.2.1, HX5.out.cells.2.2.1, HX5.out.cells.2.2.2⟩ (fun hHeld => ?_)
      clear hK K
      refine norm_ (a' := ?_) ?_ ?_
      rotate_left
      · show Act.put _ (some 22) _ = _
        simp only [Act.put, List.setIfInBounds_toArray, List.set_cons_zero, List.set_cons_succ, i64_w, i32_w]
        rfl
      refine pure_ (i := 7) (N := some 23) (v := ?_) (a' := ?_) #[true, true, true, true, true, true, true, true, false, false, false, false, false, false, false, false, false, false, false] rfl rfl (by kernel_rfl) (fun _ _ _ h => h) (Or.inl ⟨by rfl, ?_⟩) ?_ ?_
      rotate_left
      · intro w'
        go_simp
        with_reducible rfl
      rotate_left
      · simp only [Act.put, List.setIfInBounds_toArray, List.set_cons_zero, List.set_cons_succ, i64_w, i32_w]
        rfl
      refine take_ (i := 8) (N := some 24) (v := ?_) (a' := ?_) #[true, true, true, true, true, true, true, true, true, false, false, false, false, false, false, false, false, false, false] rfl rfl (by kernel_rfl) (fun _ _ _ h => h) (Or.inl ⟨by rfl, ?_⟩) hHeld ?_ ?_
      rotate_left
      · rintro w' ⟨s0, s1, s2, s3⟩
        go_simp
        with_reducible rfl
      rotate_left
      · simp only [Act.put, List.setIfInBounds_toArray, List.set_cons_zero, List.set_cons_succ, i64_w, i32_w]
        rfl
      refine pure_ (i := 10) (N := some 26) (v := ?_) (a' := ?_) #[true, true, true, true, true, true, true, true, true, false, true, false, false, false, false, false, false, false, false] rfl rfl (by kernel_rfl) (fun _ _ _ h => h) (Or.inl ⟨by rfl, ?_⟩) ?_ ?_
      rotate_left
      · intro w'
        go_simp
        with_reducible rfl
      rotate_left
      · simp only [Act.put, List.setIfInBounds_toArray, List.set_cons_zero, List.set_cons_succ, i64_w, i32_w]
        rfl
      refine take_ (i := 13) (N := some 29) (v := ?_) (a' := ?_) #[true, true, true, true, true, true, true, true, true, false, true, false, false, true, false, false, false, false, false] rfl rfl (by kernel_rfl) (fun _ _ _ h => h) (Or.inl ⟨by rfl, ?_⟩) hHeld ?_ ?_
      rotate_left
      · rintro w' ⟨s0, s1, s2, s3⟩
        go_simp
        with_reducible rfl
      rotate_left
      · simp only [Act.put, List.setIfInBounds_toArray, List.set_cons_zero, List.set_cons_succ, i64_w, i32_w]
        rfl
      refine pure_ (i := 14) (N := some 30) (v := ?_) (a' := ?_) #[true, true, true, true, true, true, true, true, true, false, true, false, false, true, true, false, false, false, false] rfl rfl (by kernel_rfl) (fun _ _ _ h => h) (Or.inl ⟨by rfl, ?_⟩) ?_ ?_
      rotate_left
      · intro w'
        go_simp
        with_reducible rfl
      rotate_left
      · simp only [Act.put, List.setIfInBounds_toArray, List.set_cons_zero, List.set_cons_succ, i64_w, i32_w]
        rfl
      refine one_ (i := 9) (N := some 25) #[true, true, true, true, true, true, true, true, true, true, true, false, false, true, true, false, false, false, false] rfl rfl (by kernel_rfl) (by decide) (fun K hK => ?_)
      refine Kd.R_lit_step (Kd.int .i64) (w0 := w) w.heap.size 3 (by rfl) (N := 25) rfl (xs := ([] : List Int)) (inner := []) (ok := fun _ => True) (okp := fun _ => False) ?hr (Reps.none _ _) (fun _ hk => hk.elim) trivial HB5.out HB5.out.size (by simp) ?_
      (case hr => first | (go_simp; done) | (go_simp; rfl))
      intro v6 w6 ho hb hg hat
      have HX6 := Aside0.mk (show RuleAt w6 w.heap.size a b A2 hd_.length c2 A3 body.length c3 from blk_grown HX5.out hg (by simp))
      have HB6 := Aside0.mk hb
      have HO6 := Aside0.mk (Kd.R_bound ho)
      have HNE := Aside0.mk (show some w.heap.size ≠ v6.ownBlock from by obtain ⟨b6, e6, hb6⟩ := hat; rw [e6]; have := blk_lt HX5.out; intro h; cases h; omega)
      obtain ⟨A6, c6, ev⟩ := Kd.R_slice ho
      subst ev
      clear ho hb hg hat HX5 HB5
      refine hK.out _ _ ⟨HX6.out.cells.1, HX6.out.cells.2.1, HX6.out.cells.2.2.1, HX6.out.cells.2.2.2⟩ (fun hHeld => ?_)
      clear hK K
      refine norm_ (a' := ?_) ?_ ?_
      rotate_left
      · show Act.put _ (some 25) _ = _
        simp only [Act.put, List.setIfInBounds_toArray, List.set_cons_zero, List.set_cons_succ, i64_w, i32_w]
        rfl
      refine one_ (i := 11) (N := some 27) #[true, true, true, true, true, true, true, true, true, true, true, true, false, true, true, false, false, false, false] rfl rfl (by kernel_rfl) (by decide) (fun K hK => ?_)
      refine Kd.R_append_rows_step (Kd.int .i64) (w0 := w) w.heap.size (by rfl) (.tmp 25) (.tmp 26) 29 3 (.int .i64 0) 8 rfl Try.underlying29 info3 rfl (by decide) (by omega) (.slice A6 ([] : List Int).length c6) [] l A1 l.length c1 (fun _ => True) (fun _ => False) rfl rfl ?aO (Kd.C_below HL.out.1 HB6.out) (fun _ _ h => h) (fun _ hk => hk.elim) (fun _ _ => trivial) HB6.out HB6.out.size ?aL ?_
      (case aO => exact Kd.R_mono HO6.out (fun _ _ => trivial))
      (case aL => simp; omega)
      intro v7 w7 ho hb hg hat
      have HX7 := Aside0.mk (show RuleAt w7 w.heap.size a b A2 hd_.length c2 A3 body.length c3 from blk_grown HX6.out hg HNE.out)
      have HB7 := Aside0.mk hb
      obtain ⟨A7, c7, ev⟩ := Kd.R_slice ho
      subst ev
      have HL7 := Aside0.mk (show l.length ≤ c7 ∧ Kd.C (Kd.int .i64) w7 A7 l.length l from (Kd.R_reads' ho).2)
      clear ho hb hg hat HX6 HB6 HO6 HNE
      refine hK.out _ _ ⟨HX7.out.cells.1, HX7.out.cells.2.1, HX7.out.cells.2.2.1, HX7.out.cells.2.2.2⟩ (fun hHeld => ?_)
      clear hK K
      refine norm_ (a' := ?_) ?_ ?_
      rotate_left
      · show Act.put _ (some 27) _ = _
        simp only [Act.put, List.setIfInBounds_toArray, List.set_cons_zero, List.set_cons_succ, i64_w, i32_w]
        rfl
      refine one_ (i := 12) (N := some 28) #[true, true, true, true, true, true, true, true, true, true, true, true, true, true, true, false, false, false, false] rfl rfl (by kernel_rfl) (by decide) (fun K hK => ?_)
      refine goes_ Try.func16 (by kernel_rfl) rfl #[.agg #[.int .u8 a, .string b, .slice A2 hd_.length c2, .slice A3 body.length c3], .slice A7 l.length c7] (by rfl) rfl rfl (by (try simp only [List.map_toArray, List.map_cons, List.map_nil]); first | done | rfl) ?_
      refine (plan_Bound.calls 200000000 a b A2 c2 hd_ A3 c3 body A7 c7 l (boundP body l) w7 (Kd.C_below H2.out.1 HB7.out) H2.out.2.1 (Kd.C_below H2.out.2.2.1 HB7.out) H2.out.2.2.2 HL7.out.2 HL7.out.1 (bound_f HSm.out a b hd_ l hl (Nat.le_refl _))).mono ?_
      rintro e w8 ⟨vv, rfl, hr, hb⟩
      refine ⟨_, rfl, ?_⟩
      obtain ⟨Ab, cb, ev⟩ := Kd.R_slice hr
      subst ev
      have HV8 := Aside0.mk (Kd.R_reads' hr).2
      have HX8 := Aside0.mk (HX7.out.below hb)
      have HB8 := Aside0.mk (below_step HB7.out hb)
      clear hr hb HX7 HB7 HL7
      refine hK.out _ _ ⟨HX8.out.cells.1, HX8.out.cells.2.1, HX8.out.cells.2.2.1, HX8.out.cells.2.2.2⟩ (fun hHeld => ?_)
      clear hK K
      refine norm_ (a' := ?_) ?_ ?_
      rotate_left
      · show Act.put _ (some 28) _ = _
        simp only [Act.put, List.setIfInBounds_toArray, List.set_cons_zero, List.set_cons_succ, i64_w, i32_w]
        rfl
      refine one_ (i := 15) (N := some 31) #[true, true, true, true, true, true, true, true, true, true, true, true, true, true, true, true, false, false, false] rfl rfl (by kernel_rfl) (by decide) (fun K hK => ?_)
      refine goes_ Try.func17 (by kernel_rfl) rfl #[.agg #[.int .u8 a, .string b, .slice A2 hd_.length c2, .slice A3 body.length c3], .slice A1 l.length c1] (by rfl) rfl rfl (by (try simp only [List.map_toArray, List.map_cons, List.map_nil]); first | done | rfl) ?_
      refine (mandateref13_Bound.calls 400000000 a b A2 c2 hd_ A3 c3 body A1 c1 l (boundP body l) w8 (Kd.C_below H2.out.1 HB8.out) H2.out.2.1 (Kd.C_below H2.out.2.2.1 HB8.out) H2.out.2.2.2 (Kd.C_below HL.out.1 HB8.out) HL.out.2 (rbound_f HSm.out a b hd_ l hl (Nat.le_refl _))).mono ?_
      rintro e w9 ⟨vv, rfl, hr, hb⟩
      refine ⟨_, rfl, ?_⟩
      obtain ⟨Ar, cr, ev⟩ := Kd.R_slice hr
      subst ev
      have HU9 := Aside0.mk (Kd.R_reads' hr).2
      have HV9 := Aside0.mk (And.intro HV8.out.1 (Kd.C_below HV8.out.2 hb))
      have HX9 := Aside0.mk (HX8.out.below hb)
      have HB9 := Aside0.mk (below_step HB8.out hb)
      clear hr hb HX8 HB8 HV8
      refine hK.out _ _ ⟨HX9.out.cells.1, HX9.out.cells.2.1, HX9.out.cells.2.2.1, HX9.out.cells.2.2.2⟩ (fun hHeld => ?_)
      clear hK K
      refine norm_ (a' := ?_) ?_ ?_
      rotate_left
      · show Act.put _ (some 31) _ = _
        simp only [Act.put, List.setIfInBounds_toArray, List.set_cons_zero, List.set_cons_succ, i64_w, i32_w]
        rfl
      refine one_ (i := 16) (N := some 32) #[true, true, true, true, true, true, true, true, true, true, true, true, true, true, true, true, true, false, false] rfl rfl (by kernel_rfl) (by decide) (fun K hK => ?_)
      refine goes_ Try.func13 (by kernel_rfl) rfl #[.slice Ab (boundP body l).length cb, .slice Ar (boundP body l).length cr] (by rfl) rfl rfl (by (try simp only [List.map_toArray, List.map_cons, List.map_nil]); first | done | rfl) ?_
      refine (mandatelaw13_names.calls 200000000 Ab cb (boundP body l) Ar cr (boundP body l) true w9 HV9.out.2 HV9.out.1 HU9.out.2 HU9.out.1 (by rw [names_f _ _ (by have := HBL.out; omega) (by have := HBL.out; omega), decide_eq_true rfl])).mono ?_
      rintro e wa ⟨rfl, ⟨nd, rfl⟩⟩
      refine ⟨_, rfl, ?_⟩
      have HXa := Aside0.mk (HX9.out.below (pw_below_drewN (Below.refl _ w9) nd))
      have HBa := Aside0.mk (pw_below_drewN HB9.out nd)
      generalize w9.drewN nd = wa at HXa HBa ⊢
      clear HX9 HB9 HV9 HU9
      refine hK.out _ _ ⟨HXa.out.cells.1, HXa.out.cells.2.1, HXa.out.cells.2.2.1, HXa.out.cells.2.2.2⟩ (fun hHeld => ?_)
      clear hK K
      refine norm_ (a' := ?_) ?_ ?_
      rotate_left
      · show Act.put _ (some 32) _ = _
        simp only [Act.put, List.setIfInBounds_toArray, List.set_cons_zero, List.set_cons_succ, i64_w, i32_w]
        rfl
      refine pure_ (i := 17) (N := some 33) (v := ?_) (a' := ?_) #[true, true, true, true, true, true, true, true, true, true, true, true, true, true, true, true, true, true, false] rfl rfl (by kernel_rfl) (fun _ _ _ h => h) (Or.inl ⟨by rfl, ?_⟩) ?_ ?_
      rotate_left
      · intro w'
        go_simp
        with_reducible rfl
      rotate_left
      · simp only [Act.put, List.setIfInBounds_toArray, List.set_cons_zero, List.set_cons_succ, i64_w, i32_w]
        rfl
      refine pure_ (i := 18) (N := some 4) (v := ?_) (a' := ?_) #[true, true, true, true, true, true, true, true, true, true, true, true, true, true, true, true, true, true, true] rfl rfl (by kernel_rfl) (fun _ _ _ h => h) (Or.inl ⟨by rfl, ?_⟩) ?_ ?_
      rotate_left
      · intro w'
        go_simp
        with_reducible rfl
      rotate_left
      · simp only [Act.put, List.setIfInBounds_toArray, List.set_cons_zero, List.set_cons_succ, i64_w, i32_w]
        rfl
      refine done_ (by kernel_rfl) ?_
      go_wp2
      go_ret
      exact ⟨rfl, HBa.out⟩
    · have f100 : decide ((100 : Int) < (l.length : Int)) = true := decide_eq_true (by omega)
      go_wp2
      go_ret
      exact ⟨rfl, HB1.out⟩
  · have f30 : decide ((30 : Int) < (body.length : Int)) = true := decide_eq_true (by omega)
    go_wp2
    go_ret
    exact ⟨rfl, HB1.out⟩

end Go.Proofs.Ytngamodmbgjajaa.PPlanOrders
