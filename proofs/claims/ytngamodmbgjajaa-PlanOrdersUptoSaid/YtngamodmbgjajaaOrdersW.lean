/- PlanOrders, walked: it answers true. No condition beyond those each theorem names. -/
import Derived.Test.YtngamodmbgjajaaGoesW
namespace Go.Proofs.Ytngamodmbgjajaa.PPlanOrders
open Go.RowKit Go.Proofs.YtngamodmbgjajaaW.PrintWords Go.Proofs.YtngamodmbgjajaaW.PrintLast Go.Proofs.YtngamodmbgjajaaW.PrintMore
set_option linter.unusedVariables false
set_option linter.unusedSimpArgs false

theorem goesP_len (body : List S24) : ∀ (d : Nat) (out : List Int) (have_ : List ByteArray), (goesP body d out have_).1.length ≤ out.length + d
  | 0, out, have_ => by simp [goesP]
  | d + 1, out, have_ => by
    unfold goesP
    split
    · have := goesP_len body d (out ++ [(scan body have_ out body.length 0 (-1) (-1)).2]) have_
      rw [List.length_append, List.length_singleton] at this
      omega
    · split
      · simp
      · have := goesP_len body d (out ++ [(scan body have_ out body.length 0 (-1) (-1)).2]) (putsS have_ (varsP (rd_T24 body (scan body have_ out body.length 0 (-1) (-1)).2).f2))
        rw [List.length_append, List.length_singleton] at this
        omega
theorem planP_len (body : List S24) (out : List Int) : (planP body out).1.length ≤ out.length + body.length := by
  unfold planP
  split
  · have := goesP_len body (body.length - out.length) out (boundP body out)
    omega
  · simp
theorem fromP_len (body : List S24) (k : Int) : (fromP body k).1.length ≤ 1 + body.length := by
  unfold fromP
  split
  · exact planP_len body [k]
  · simp

/-- A rule, copied. -/
theorem copy_at (w : World) (a : Int) (b : ByteArray) (A2 : Option Addr) (c2 : Nat) (hd_ : List S50) (h2 : Kd.C k50 w A2 hd_.length hd_) (hc2 : hd_.length ≤ c2) (hh : hd_.length ≤ 1000000000) (A3 : Option Addr) (c3 : Nat) (body : List S24) (h3 : Kd.C k24 w A3 body.length body) (hc3 : body.length ≤ c3) (hb : Small body) :
    Calls Try.prog 8 #[.agg #[.int .u8 a, .string b, .slice A2 hd_.length c2, .slice A3 body.length c3]] w fun e w' => ∃ A2' c2' A3' c3', e = .returned (.agg #[.int .u8 a, .string b, .slice A2' hd_.length c2', .slice A3' body.length c3']) ∧ Kd.C k50 w' A2' hd_.length hd_ ∧ hd_.length ≤ c2' ∧ Kd.C k24 w' A3' body.length body ∧ body.length ≤ c3' ∧ Below w.heap.size w w' := by
  refine (mandateref09_CopyRule.calls 100 a b A2 c2 hd_ A3 c3 body a b hd_ body w h2 hc2 h3 hc3 (copyRule_f hb a b hd_ hh (Nat.le_refl _))).mono ?_
  rintro e w' ⟨v2, v3, rfl, hr, hs, hbl⟩
  obtain ⟨A2', c2', rfl⟩ := Kd.R_slice hr
  obtain ⟨A3', c3', rfl, hl, hC⟩ := Kd.S_reads hs
  exact ⟨A2', c2', A3', c3', rfl, (Kd.R_reads' hr).2.2, (Kd.R_reads' hr).2.1, hC, hl, hbl⟩

set_option maxHeartbeats 2000000 in
set_option maxRecDepth 100000 in
theorem Orders_calls (w : World) (a : Int) (b : ByteArray) (A2 : Option Addr) (c2 : Nat) (hd_ : List S50) (h2 : Kd.C k50 w A2 hd_.length hd_) (hc2 : hd_.length ≤ c2) (hh : hd_.length ≤ 1000000000) (A3 : Option Addr) (c3 : Nat) (body : List S24) (h3 : Kd.C k24 w A3 body.length body) (hc3 : body.length ≤ c3) (hb : body.length ≤ 30 → Small body) (hbl : body.length ≤ 1000000000) (k : Int) :
    Calls Try.prog 3 #[.agg #[.int .u8 a, .string b, .slice A2 hd_.length c2, .slice A3 body.length c3], .int .i64 k] w fun e w' => e = .returned (.bool true) ∧ Below w.heap.size w w' := by
  have HX := Aside0.mk (show RuleAt (w.alloc (.cells #[.int .u8 a, .string b, .slice A2 hd_.length c2, .slice A3 body.length c3] 27)) w.heap.size a b A2 hd_.length c2 A3 body.length c3 from blk_new w _)
  have HB := Aside0.mk (below_alloc (Below.refl w.heap.size w) (.cells #[.int .u8 a, .string b, .slice A2 hd_.length c2, .slice A3 body.length c3] 27))
  have H2 := Aside0.mk (And.intro h2 (And.intro hc2 (And.intro h3 hc3)))
  have HS := Aside0.mk hb
  have HH := Aside0.mk hh
  clear h2 hc2 hc3 h3 hb hh
  go_enter Try.func3, Try.ntmps3
  go_wp2_with fail
  refine (fixed_calls _).mono ?_
  rintro e w1 ⟨rfl, hb⟩
  have HX1 := Aside0.mk (HX.out.below hb)
  have HB1 := Aside0.mk (below_step HB.out hb)
  clear hb HX HB
  obtain ⟨x0, x1, x2, x3⟩ := HX1.out.cells
  by_cases h30 : body.length ≤ 30
  · have f30 : decide ((30 : Int) < (body.length : Int)) = false := decide_eq_false (by omega)
    have HSm := Aside0.mk (HS.out h30)
    clear HS
    go_wp2_with fail
    refine (copy_at w1 a b A2 c2 hd_ (Kd.C_below H2.out.1 HB1.out) H2.out.2.1 HH.out A3 c3 body (Kd.C_below H2.out.2.2.1 HB1.out) H2.out.2.2.2 HSm.out).mono ?_
    rintro e w2 ⟨A2', c2', A3', c3', rfl, k1, k2, k3, k4, hb⟩
    have HC2 := Aside0.mk (And.intro k1 (And.intro k2 (And.intro k3 k4)))
    have HX2 := Aside0.mk (HX1.out.below hb)
    have HB2 := Aside0.mk (below_step HB1.out hb)
    clear k1 k2 k3 k4 hb x0 x1 x2 x3 HX1 HB1
    go_wp2_with fail
    refine (order_calls w2 a b A2' c2' hd_ HC2.out.1 HC2.out.2.1 A3' c3' body HC2.out.2.2.1 HC2.out.2.2.2 HSm.out).mono ?_
    rintro e w3 ⟨v1, rfl, hr, hb⟩
    obtain ⟨Ao, co, rfl⟩ := Kd.R_slice hr
    have HO3 := Aside0.mk (Kd.R_reads' hr).2
    have HX3 := Aside0.mk (HX2.out.below hb)
    have HB3 := Aside0.mk (below_step HB2.out hb)
    clear hr hb HX2 HB2 HC2
    obtain ⟨x0, x1, x2, x3⟩ := HX3.out.cells
    go_wp2_with fail
    refine (goes_calls w3 a b A2 c2 hd_ (Kd.C_below H2.out.1 HB3.out) H2.out.2.1 A3 c3 body (Kd.C_below H2.out.2.2.1 HB3.out) H2.out.2.2.2 HSm.out none 0 [] (Kd.C_nil _ _) (Nat.le_refl _) (by simp)).mono ?_
    rintro e w4 ⟨v2, rfl, hr, hb⟩
    obtain ⟨Ag, cg, rfl⟩ := Kd.R_slice hr
    have HO4 := Aside0.mk (And.intro HO3.out.1 (Kd.C_below HO3.out.2 hb))
    have HG4 := Aside0.mk (Kd.R_reads' hr).2
    have HX4 := Aside0.mk (HX3.out.below hb)
    have HB4 := Aside0.mk (below_step HB3.out hb)
    clear hr hb HX3 HB3 HO3 x0 x1 x2 x3
    obtain ⟨x0, x1, x2, x3⟩ := HX4.out.cells
    go_wp2_with fail
    refine (copy_at w4 a b A2 c2 hd_ (Kd.C_below H2.out.1 HB4.out) H2.out.2.1 HH.out A3 c3 body (Kd.C_below H2.out.2.2.1 HB4.out) H2.out.2.2.2 HSm.out).mono ?_
    rintro e w5 ⟨A2'', c2'', A3'', c3'', rfl, k1, k2, k3, k4, hb⟩
    have HC5 := Aside0.mk (And.intro k1 (And.intro k2 (And.intro k3 k4)))
    have HO5 := Aside0.mk (And.intro HO4.out.1 (Kd.C_below HO4.out.2 hb))
    have HG5 := Aside0.mk (And.intro HG4.out.1 (Kd.C_below HG4.out.2 hb))
    have HX5 := Aside0.mk (HX4.out.below hb)
    have HB5 := Aside0.mk (below_step HB4.out hb)
    clear k1 k2 k3 k4 hb x0 x1 x2 x3 HX4 HB4 HO4 HG4
    go_wp2_with fail
    refine (from_calls w5 a b A2'' c2'' hd_ HC5.out.1 HC5.out.2.1 A3'' c3'' body HC5.out.2.2.1 HC5.out.2.2.2 HSm.out k).mono ?_
    rintro e w6 ⟨v3, rfl, hr, hb⟩
    obtain ⟨Af, cf, rfl⟩ := Kd.R_slice hr
    have HF6 := Aside0.mk (Kd.R_reads' hr).2
    have HO6 := Aside0.mk (And.intro HO5.out.1 (Kd.C_below HO5.out.2 hb))
    have HG6 := Aside0.mk (And.intro HG5.out.1 (Kd.C_below HG5.out.2 hb))
    have HX6 := Aside0.mk (HX5.out.below hb)
    have HB6 := Aside0.mk (below_step HB5.out hb)
    clear hr hb HX5 HB5 HO5 HG5 HC5
    obtain ⟨x0, x1, x2, x3⟩ := HX6.out.cells
    go_wp2_with fail
    refine (rfrom_calls w6 a b A2 c2 hd_ (Kd.C_below H2.out.1 HB6.out) H2.out.2.1 A3 c3 body (Kd.C_below H2.out.2.2.1 HB6.out) H2.out.2.2.2 HSm.out k).mono ?_
    rintro e w7 ⟨v4, rfl, hr, hb⟩
    obtain ⟨Ar, cr, rfl⟩ := Kd.R_slice hr
    have HR7 := Aside0.mk (Kd.R_reads' hr).2
    have HF7 := Aside0.mk (And.intro HF6.out.1 (Kd.C_below HF6.out.2 hb))
    have HO7 := Aside0.mk (And.intro HO6.out.1 (Kd.C_below HO6.out.2 hb))
    have HG7 := Aside0.mk (And.intro HG6.out.1 (Kd.C_below HG6.out.2 hb))
    have HB7 := Aside0.mk (below_step HB6.out hb)
    clear hr hb HX6 HB6 HO6 HG6 HF6 x0 x1 x2 x3
    have HPL := Aside0.mk (planP_len body [])
    have HFL := Aside0.mk (fromP_len body k)
    generalize planP body [] = P1 at HO7 HG7 HPL ⊢
    generalize fromP body k = P2 at HF7 HR7 HFL ⊢
    obtain ⟨pa, pb⟩ := P1
    obtain ⟨qa, qb⟩ := P2
    have g1 : (pb == pb) = true := beq_self_eq_true pb
    have g2 : (qb == qb) = true := beq_self_eq_true qb
    go_wp2_with fail
    refine (mandatelaw13_numbers.calls 100 Ao co pa Ag cg pa true w7 HO7.out.2 HO7.out.1 HG7.out.2 HG7.out.1 (by rw [numbers_f _ _ (by have := HPL.out; simp at this; omega) (by have := HPL.out; simp at this; omega), decide_eq_true rfl])).mono ?_
    rintro e w8 ⟨rfl, ⟨nd, rfl⟩⟩
    have HB8 := Aside0.mk (pw_below_drewN (Below.refl w7.heap.size w7) nd)
    generalize w7.drewN nd = w8 at HB8 ⊢
    go_wp2_with fail
    refine (mandatelaw13_numbers.calls 100 Af cf qa Ar cr qa true w8 (Kd.C_below HF7.out.2 HB8.out) HF7.out.1 (Kd.C_below HR7.out.2 HB8.out) HR7.out.1 (by rw [numbers_f _ _ (by have := HFL.out; omega) (by have := HFL.out; omega), decide_eq_true rfl])).mono ?_
    rintro e w9 ⟨rfl, ⟨nd2, rfl⟩⟩
    have HB9 := Aside0.mk (below_step HB7.out (pw_below_drewN HB8.out nd2))
    generalize w8.drewN nd2 = w9 at HB9 ⊢
    go_wp2
    go_ret
    exact ⟨rfl, HB9.out⟩
  · have f30 : decide ((30 : Int) < (body.length : Int)) = true := decide_eq_true (by omega)
    go_wp2
    go_ret
    exact ⟨rfl, HB1.out⟩

end Go.Proofs.Ytngamodmbgjajaa.PPlanOrders
