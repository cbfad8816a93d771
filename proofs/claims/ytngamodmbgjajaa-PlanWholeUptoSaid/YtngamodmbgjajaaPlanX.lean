/- The chapter's examples, as the laws ask them first: they hold. No condition beyond those each theorem names. -/
import Derived.Test.YtngamodmbgjajaaPlanW
namespace Go.Proofs.Ytngamodmbgjajaa.PPlanOrders
open Go.RowKit Go.Proofs.YtngamodmbgjajaaW.PrintWords Go.Proofs.YtngamodmbgjajaaW.PrintLast Go.Proofs.YtngamodmbgjajaaW.PrintMore
set_option linter.unusedVariables false
set_option linter.unusedSimpArgs false

theorem litArgs_len (vs : List ByteArray) : (litArgs vs).length = vs.length := by simp [litArgs]
theorem lit_at (w : World) (a : Int) (b : ByteArray) (vs : List ByteArray) {n g : Nat} (hn : vs.length = n) (hm : vs.length ≤ 1000) (hg : w.heap.size = g) :
    Calls Try.prog 19 #[.int .u8 a, .string b, .slice (some ⟨g, 0, none⟩) n n] (w.alloc (.cells (vs.map Value.string).toArray 9)) fun e w' => ∃ A c, e = .returned (.agg #[.int .u8 a, .string b, .slice A n c]) ∧ n ≤ c ∧ Kd.C k50 w' A n (litArgs vs) ∧ Below w.heap.size w w' := by
  subst hn
  subst hg
  refine (mandatelaw13_lit.calls 2000 a b _ _ vs a b (litArgs vs) _ (C_strs vs (by omega) (blk_new w _)) (Nat.le_refl _) (lit_f vs a b (by omega) (by omega))).mono ?_
  rintro e w' ⟨v2, rfl, hr, hb⟩
  obtain ⟨A, c, rfl⟩ := Kd.R_slice hr
  have h1 := Kd.R_reads' hr
  rw [litArgs_len] at h1
  refine ⟨A, c, by rw [litArgs_len], h1.2.1, h1.2.2, ?_⟩
  exact below_step (below_alloc (Below.refl _ _) _) hb

def sX : ByteArray := ⟨#[88]⟩
def sY : ByteArray := ⟨#[89]⟩
def sZ : ByteArray := ⟨#[90]⟩
def r1h : List S50 := litArgs [sX]
def r1b : List S24 := [⟨2, ⟨#[98, 97, 100]⟩, litArgs [sX]⟩, ⟨1, ⟨#[112]⟩, litArgs [sX]⟩, ⟨4, ⟨#[]⟩, litArgs [sX]⟩]
def r2h : List S50 := litArgs [sX, sZ]
def r2b : List S24 := [⟨1, ⟨#[113]⟩, litArgs [sX, sY]⟩, ⟨1, ⟨#[113]⟩, litArgs [sY, sZ]⟩]
theorem plan1 : planP r1b [] = ([1, 0, 2], true) := by decide +kernel
theorem plan2 : fromP r2b 1 = ([1, 0], true) := by decide +kernel
theorem vars2 : varsP r2h = [sX, sZ] := by decide +kernel
theorem bound2 : boundP r2b [1] = [sY, sZ] := by decide +kernel
theorem small1 : Small r1b := ⟨by decide, fun k h0 h1 => by
  have h3 : r1b.length = 3 := rfl
  rcases (show k = 0 ∨ k = 1 ∨ k = 2 by omega) with rfl | rfl | rfl <;> exact (by decide : (1 : Nat) ≤ 1048576)⟩
theorem small2 : Small r2b := ⟨by decide, fun k h0 h1 => by
  have h3 : r2b.length = 2 := rfl
  rcases (show k = 0 ∨ k = 1 by omega) with rfl | rfl <;> exact (by decide : (2 : Nat) ≤ 1048576)⟩

set_option maxHeartbeats 2000000 in
set_option maxRecDepth 100000 in
theorem fixed_calls (w : World) : Calls Try.prog 6 #[] w fun e w' => e = .returned (.bool true) ∧ Below w.heap.size w w' := by
  go_enter Try.func6, Try.ntmps6
  go_wp2_with fail
  refine (lit_at w 1 ⟨#[111, 107]⟩ [sX] (n := 1) rfl (by decide) rfl).mono ?_
  rintro e w1 ⟨A1, c1, rfl, l1, h1, hb⟩
  have HC1 := Aside0.mk (And.intro l1 h1)
  have HB1 := Aside0.mk hb
  clear l1 h1 hb
  go_wp2_with fail
  refine (lit_at w1 2 ⟨#[98, 97, 100]⟩ [sX] (n := 1) rfl (by decide) rfl).mono ?_
  rintro e w2 ⟨A2, c2, rfl, l1, h1, hb⟩
  have HC1 := Aside0.mk (And.intro HC1.out.1 (Kd.C_below HC1.out.2 hb))
  have HC2 := Aside0.mk (And.intro l1 h1)
  have HB2 := Aside0.mk (below_step HB1.out hb)
  clear l1 h1 hb HB1
  go_wp2_with fail
  refine (lit_at w2 1 ⟨#[112]⟩ [sX] (n := 1) rfl (by decide) rfl).mono ?_
  rintro e w3 ⟨A3, c3, rfl, l1, h1, hb⟩
  have HC1 := Aside0.mk (And.intro HC1.out.1 (Kd.C_below HC1.out.2 hb))
  have HC2 := Aside0.mk (And.intro HC2.out.1 (Kd.C_below HC2.out.2 hb))
  have HC3 := Aside0.mk (And.intro l1 h1)
  have HB3 := Aside0.mk (below_step HB2.out hb)
  clear l1 h1 hb HB2
  go_wp2_with fail
  refine (lit_at w3 4 ⟨#[]⟩ [sX] (n := 1) rfl (by decide) rfl).mono ?_
  rintro e w4 ⟨A4, c4, rfl, l1, h1, hb⟩
  have HC1 := Aside0.mk (And.intro HC1.out.1 (Kd.C_below HC1.out.2 hb))
  have HC2 := Aside0.mk (And.intro HC2.out.1 (Kd.C_below HC2.out.2 hb))
  have HC3 := Aside0.mk (And.intro HC3.out.1 (Kd.C_below HC3.out.2 hb))
  have HC4 := Aside0.mk (And.intro l1 h1)
  have HB4 := Aside0.mk (below_step HB3.out hb)
  clear l1 h1 hb HB3
  go_wp2_with fail
  have HBox := Aside0.mk (blk_new (w4.alloc (.cells #[.int .u8 2, .string ⟨#[98, 97, 100]⟩, .slice A2 1 c2, .int .u8 1, .string ⟨#[112]⟩, .slice A3 1 c3, .int .u8 4, .string ⟨#[]⟩, .slice A4 1 c4] 24)) (.cells #[.int .u8 1, .string ⟨#[111, 107]⟩, .slice A1 1 c1, .slice (some ⟨w4.heap.size, 0, none⟩) 3 3] 27))
  have HBy := Aside0.mk (below_alloc (below_alloc (Below.refl w4.heap.size w4) (.cells #[.int .u8 2, .string ⟨#[98, 97, 100]⟩, .slice A2 1 c2, .int .u8 1, .string ⟨#[112]⟩, .slice A3 1 c3, .int .u8 4, .string ⟨#[]⟩, .slice A4 1 c4] 24)) (.cells #[.int .u8 1, .string ⟨#[111, 107]⟩, .slice A1 1 c1, .slice (some ⟨w4.heap.size, 0, none⟩) 3 3] 27))
  have HBl := Aside0.mk (blk_alloc (blk_new w4 (.cells #[.int .u8 2, .string ⟨#[98, 97, 100]⟩, .slice A2 1 c2, .int .u8 1, .string ⟨#[112]⟩, .slice A3 1 c3, .int .u8 4, .string ⟨#[]⟩, .slice A4 1 c4] 24)) (.cells #[.int .u8 1, .string ⟨#[111, 107]⟩, .slice A1 1 c1, .slice (some ⟨w4.heap.size, 0, none⟩) 3 3] 27))
  have HBody := Aside0.mk (C_lit k24 (l := r1b) [[.int .u8 2, .string ⟨#[98, 97, 100]⟩, .slice A2 1 c2], [.int .u8 1, .string ⟨#[112]⟩, .slice A3 1 c3], [.int .u8 4, .string ⟨#[]⟩, .slice A4 1 c4]] rfl (by decide) (fun j x c hx hc => by
    rcases j with _ | _ | _ | j
    · cases hx; cases hc; exact k24_mk _ ⟨2, ⟨#[98, 97, 100]⟩, litArgs [sX]⟩ HC2.out.1 (Kd.C_below HC2.out.2 HBy.out)
    · cases hx; cases hc; exact k24_mk _ ⟨1, ⟨#[112]⟩, litArgs [sX]⟩ HC3.out.1 (Kd.C_below HC3.out.2 HBy.out)
    · cases hx; cases hc; exact k24_mk _ ⟨4, ⟨#[]⟩, litArgs [sX]⟩ HC4.out.1 (Kd.C_below HC4.out.2 HBy.out)
    · simp [r1b] at hx) HBl.out)
  refine (order_calls _ 1 ⟨#[111, 107]⟩ A1 c1 r1h (Kd.C_below HC1.out.2 HBy.out) HC1.out.1 (some ⟨w4.heap.size, 0, none⟩) 3 r1b HBody.out (by decide) small1).mono ?_
  rintro e w5 ⟨vo, rfl, hr, hb⟩
  rw [plan1] at hr ⊢
  have HB5 := Aside0.mk (below_step HB4.out (below_step HBy.out hb))
  obtain ⟨Ao, co, rfl⟩ := Kd.R_slice hr
  have HO5 := Aside0.mk (Kd.R_reads' hr).2
  clear hr hb HBody HBl HBy HBox HC1 HC2 HC3 HC4 HB4
  go_wp2_with fail
  refine (lit_at w5 1 ⟨#[113]⟩ [sX, sZ] (n := 2) rfl (by decide) rfl).mono ?_
  rintro e w6 ⟨A6, c6, rfl, l1, h1, hb⟩
  have HO5 := Aside0.mk (And.intro HO5.out.1 (Kd.C_below HO5.out.2 hb))
  have HC6 := Aside0.mk (And.intro l1 h1)
  have HB6 := Aside0.mk (below_step HB5.out hb)
  clear l1 h1 hb HB5
  go_wp2_with fail
  refine (lit_at w6 1 ⟨#[113]⟩ [sX, sY] (n := 2) rfl (by decide) rfl).mono ?_
  rintro e w7 ⟨A7, c7, rfl, l1, h1, hb⟩
  have HO5 := Aside0.mk (And.intro HO5.out.1 (Kd.C_below HO5.out.2 hb))
  have HC6 := Aside0.mk (And.intro HC6.out.1 (Kd.C_below HC6.out.2 hb))
  have HC7 := Aside0.mk (And.intro l1 h1)
  have HB7 := Aside0.mk (below_step HB6.out hb)
  clear l1 h1 hb HB6
  go_wp2_with fail
  refine (lit_at w7 1 ⟨#[113]⟩ [sY, sZ] (n := 2) rfl (by decide) rfl).mono ?_
  rintro e w8 ⟨A8, c8, rfl, l1, h1, hb⟩
  have HO5 := Aside0.mk (And.intro HO5.out.1 (Kd.C_below HO5.out.2 hb))
  have HC6 := Aside0.mk (And.intro HC6.out.1 (Kd.C_below HC6.out.2 hb))
  have HC7 := Aside0.mk (And.intro HC7.out.1 (Kd.C_below HC7.out.2 hb))
  have HC8 := Aside0.mk (And.intro l1 h1)
  have HB8 := Aside0.mk (below_step HB7.out hb)
  clear l1 h1 hb HB7
  go_wp2_with fail
  have HBy := Aside0.mk (below_alloc (below_alloc (Below.refl w8.heap.size w8) (.cells #[.int .u8 1, .string ⟨#[113]⟩, .slice A7 2 c7, .int .u8 1, .string ⟨#[113]⟩, .slice A8 2 c8] 24)) (.cells #[.int .u8 1, .string ⟨#[113]⟩, .slice A6 2 c6, .slice (some ⟨w8.heap.size, 0, none⟩) 2 2] 27))
  have HBl := Aside0.mk (blk_alloc (blk_new w8 (.cells #[.int .u8 1, .string ⟨#[113]⟩, .slice A7 2 c7, .int .u8 1, .string ⟨#[113]⟩, .slice A8 2 c8] 24)) (.cells #[.int .u8 1, .string ⟨#[113]⟩, .slice A6 2 c6, .slice (some ⟨w8.heap.size, 0, none⟩) 2 2] 27))
  have HBody := Aside0.mk (C_lit k24 (l := r2b) [[.int .u8 1, .string ⟨#[113]⟩, .slice A7 2 c7], [.int .u8 1, .string ⟨#[113]⟩, .slice A8 2 c8]] rfl (by decide) (fun j x c hx hc => by
    rcases j with _ | _ | j
    · cases hx; cases hc; exact k24_mk _ ⟨1, ⟨#[113]⟩, litArgs [sX, sY]⟩ HC7.out.1 (Kd.C_below HC7.out.2 HBy.out)
    · cases hx; cases hc; exact k24_mk _ ⟨1, ⟨#[113]⟩, litArgs [sY, sZ]⟩ HC8.out.1 (Kd.C_below HC8.out.2 HBy.out)
    · simp [r2b] at hx) HBl.out)
  have HBq := Aside0.mk (show RuleAt ((w8.alloc (.cells #[.int .u8 1, .string ⟨#[113]⟩, .slice A7 2 c7, .int .u8 1, .string ⟨#[113]⟩, .slice A8 2 c8] 24)).alloc (.cells #[.int .u8 1, .string ⟨#[113]⟩, .slice A6 2 c6, .slice (some ⟨w8.heap.size, 0, none⟩) 2 2] 27)) (w8.heap.size + 1) 1 ⟨#[113]⟩ A6 2 c6 (some ⟨w8.heap.size, 0, none⟩) 2 2 from by rw [← World.size_alloc w8 (.cells #[.int .u8 1, .string ⟨#[113]⟩, .slice A7 2 c7, .int .u8 1, .string ⟨#[113]⟩, .slice A8 2 c8] 24)]; exact blk_new (w8.alloc (.cells #[.int .u8 1, .string ⟨#[113]⟩, .slice A7 2 c7, .int .u8 1, .string ⟨#[113]⟩, .slice A8 2 c8] 24)) (.cells #[.int .u8 1, .string ⟨#[113]⟩, .slice A6 2 c6, .slice (some ⟨w8.heap.size, 0, none⟩) 2 2] 27))
  refine (from_calls _ 1 ⟨#[113]⟩ A6 c6 r2h (Kd.C_below HC6.out.2 HBy.out) HC6.out.1 (some ⟨w8.heap.size, 0, none⟩) 2 r2b HBody.out (by decide) small2 1).mono ?_
  rintro e w9 ⟨vo, rfl, hr, hb⟩
  rw [plan2] at hr ⊢
  have hb9 := below_step HBy.out hb
  have HB9 := Aside0.mk (below_step HB8.out hb9)
  obtain ⟨Af, cf, rfl⟩ := Kd.R_slice hr
  have HF9 := Aside0.mk (Kd.R_reads' hr).2
  have HO9 := Aside0.mk (And.intro HO5.out.1 (Kd.C_below HO5.out.2 hb9))
  have HC9 := Aside0.mk (And.intro HC6.out.1 (Kd.C_below HC6.out.2 hb9))
  have HY9 := Aside0.mk (Kd.C_below HBody.out hb)
  have HQ9 := Aside0.mk (HBq.out.below hb)
  clear hr hb hb9 HBody HBl HBy HBq HO5 HC6 HC7 HC8 HB8
  go_wp2_with fail
  have hbx := below_alloc (Below.refl w9.heap.size w9) (.cells #[.int .i64 1, .int .i64 0, .int .i64 2] 3)
  refine (mandatelaw13_numbers.calls 100 Ao co [1, 0, 2] _ 3 [1, 0, 2] true _ (Kd.C_below HO9.out.2 hbx) HO9.out.1 (C_ints [1, 0, 2] (by decide) (blk_new w9 _)) (by decide) (by rw [numbers_f _ _ (by decide) (by decide)]; rfl)).mono ?_
  rintro e wa ⟨rfl, ⟨nd, rfl⟩⟩
  have HBa := Aside0.mk (pw_below_drewN hbx nd)
  generalize (w9.alloc (.cells #[.int .i64 1, .int .i64 0, .int .i64 2] 3)).drewN nd = wa at HBa ⊢
  clear hbx
  go_wp2_with fail
  have hbx := below_alloc (Below.refl wa.heap.size wa) (.cells #[.int .i64 1, .int .i64 0] 3)
  refine (mandatelaw13_numbers.calls 100 Af cf [1, 0] _ 2 [1, 0] true _ (Kd.C_below (Kd.C_below HF9.out.2 HBa.out) hbx) HF9.out.1 (C_ints [1, 0] (by decide) (blk_new wa _)) (by decide) (by rw [numbers_f _ _ (by decide) (by decide)]; rfl)).mono ?_
  rintro e wb ⟨rfl, ⟨nd2, rfl⟩⟩
  have HBb := Aside0.mk (below_step HBa.out (pw_below_drewN hbx nd2))
  generalize (wa.alloc (.cells #[.int .i64 1, .int .i64 0] 3)).drewN nd2 = wb at HBb ⊢
  clear hbx
  obtain ⟨x0, x1, x2, x3⟩ := (HQ9.out.below HBb.out).cells
  go_wp2_with fail
  refine (plan_Vars.calls 4000000 1 ⟨#[113]⟩ A6 c6 r2h [sX, sZ] _ (Kd.C_below HC9.out.2 HBb.out) HC9.out.1 (by rw [vars_f 1 ⟨#[113]⟩ r2h (by decide) (by decide), vars2])).mono ?_
  rintro e wc ⟨vv, rfl, hr, hb⟩
  obtain ⟨Av, cv, rfl⟩ := Kd.R_slice hr
  have HVc := Aside0.mk (Kd.R_reads' hr).2
  have HBc := Aside0.mk (below_step HBb.out hb)
  clear hr hb x0 x1 x2 x3
  go_wp2_with fail
  have hbx := below_alloc (Below.refl wc.heap.size wc) (.cells #[.string ⟨#[88]⟩, .string ⟨#[90]⟩] 9)
  refine (mandatelaw13_names.calls 100 Av cv [sX, sZ] _ 2 [sX, sZ] true _ (Kd.C_below HVc.out.2 hbx) HVc.out.1 (C_strs [sX, sZ] (by decide) (blk_new wc _)) (by decide) (by rw [names_f _ _ (by decide) (by decide)]; simp)).mono ?_
  rintro e wd ⟨rfl, ⟨nd3, rfl⟩⟩
  have HBd := Aside0.mk (below_step HBc.out (pw_below_drewN hbx nd3))
  generalize (wc.alloc (.cells #[.string ⟨#[88]⟩, .string ⟨#[90]⟩] 9)).drewN nd3 = wd at HBd ⊢
  clear hbx
  obtain ⟨x0, x1, x2, x3⟩ := (HQ9.out.below HBd.out).cells
  go_wp2_with fail
  have hbx := below_step HBd.out (below_alloc (Below.refl wd.heap.size wd) (.cells #[.int .i64 1] 3))
  refine (plan_Bound.calls 200000000 1 ⟨#[113]⟩ A6 c6 r2h (some ⟨w8.heap.size, 0, none⟩) 2 r2b _ 1 [1] [sY, sZ] _ (Kd.C_below HC9.out.2 hbx) HC9.out.1 (Kd.C_below HY9.out hbx) (by decide) (C_ints [1] (by decide) (blk_new wd _)) (by decide) (by rw [bound_f small2 1 ⟨#[113]⟩ r2h [1] (by decide) (Nat.le_refl _), bound2])).mono ?_
  rintro e we ⟨vv, rfl, hr, hb⟩
  obtain ⟨Ab, cb, rfl⟩ := Kd.R_slice hr
  have HVe := Aside0.mk (Kd.R_reads' hr).2
  have HBe := Aside0.mk (below_step hbx hb)
  clear hr hb hbx x0 x1 x2 x3
  go_wp2_with fail
  have hbx := below_alloc (Below.refl we.heap.size we) (.cells #[.string ⟨#[89]⟩, .string ⟨#[90]⟩] 9)
  refine (mandatelaw13_names.calls 100 Ab cb [sY, sZ] _ 2 [sY, sZ] true _ (Kd.C_below HVe.out.2 hbx) HVe.out.1 (C_strs [sY, sZ] (by decide) (blk_new we _)) (by decide) (by rw [names_f _ _ (by decide) (by decide)]; simp)).mono ?_
  rintro e wf ⟨rfl, ⟨nd4, rfl⟩⟩
  have HBf := Aside0.mk (below_step HB9.out (below_step HBe.out (pw_below_drewN hbx nd4)))
  generalize (we.alloc (.cells #[.string ⟨#[89]⟩, .string ⟨#[90]⟩] 9)).drewN nd4 = wf at HBf ⊢
  clear hbx
  go_wp2
  go_ret
  exact ⟨rfl, HBf.out⟩

end Go.Proofs.Ytngamodmbgjajaa.PPlanOrders
