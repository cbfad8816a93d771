/- What the reference's Goes and From answer: the plan. No condition beyond those each theorem names. -/
import Derived.Test.YtngamodmbgjajaaNextW
namespace Go.Proofs.Ytngamodmbgjajaa.PPlanOrders
open Go.RowKit Go.Proofs.YtngamodmbgjajaaW.PrintWords Go.Proofs.YtngamodmbgjajaaW.PrintLast Go.Proofs.YtngamodmbgjajaaW.PrintMore
set_option linter.unusedVariables false
set_option linter.unusedSimpArgs false

theorem goes_step {body : List S24} {out : List Int} {n : Int} (hlt : out.length < body.length) (hn : n = (scan body (boundP body out) out body.length 0 (-1) (-1)).2) :
    (n < 0 → goesP body (body.length - out.length) out (boundP body out) = ([], false)) ∧ (¬ n < 0 → goesP body (body.length - out.length) out (boundP body out) = goesP body (body.length - (out ++ [n]).length) (out ++ [n]) (boundP body (out ++ [n]))) := by
  have hin := scan_in body (boundP body out) out body.length 0 (-1) (-1) (by omega) (.inl rfl)
  rw [← hn] at hin
  cases hs : (scan body (boundP body out) out body.length 0 (-1) (-1)).1 with
  | true =>
    have h1 := hin.1 hs
    have h2 : scan body (boundP body out) out body.length 0 (-1) (-1) = (true, n) := by rw [hn, ← hs]
    exact ⟨fun h => by omega, fun _ => by rw [goesP_true hlt h2, boundP_other h1.2.2.2]⟩
  | false =>
    have h1 := hin.2 hs
    have h2 : scan body (boundP body out) out body.length 0 (-1) (-1) = (false, n) := by rw [hn, ← hs]
    refine ⟨fun h => goesP_none hlt h2 h, fun h => ?_⟩
    have h3 : 0 ≤ n ∧ n < body.length ∧ n ∉ out ∧ (rd_T24 body n).f0 = 1 := by
      rcases h1 with h1 | h1
      · omega
      · exact h1
    rw [goesP_best hlt h2 h, boundP_lpos h3.1 h3.2.1 h3.2.2.2]

set_option maxHeartbeats 4000000 in
set_option maxRecDepth 100000 in
theorem goes_calls (w : World) (a : Int) (b : ByteArray) (A2 : Option Addr) (c2 : Nat) (hd_ : List S50) (h2 : Kd.C k50 w A2 hd_.length hd_) (hc2 : hd_.length ≤ c2) (A3 : Option Addr) (c3 : Nat) (body : List S24) (h3 : Kd.C k24 w A3 body.length body) (hc3 : body.length ≤ c3) (hb : Small body) (A1 : Option Addr) (c1 : Nat) (out : List Int) (h1 : Kd.C (Kd.int .i64) w A1 out.length out) (hc1 : out.length ≤ c1) (ho : out.length ≤ 2) :
    Calls Try.prog 9 #[.agg #[.int .u8 a, .string b, .slice A2 hd_.length c2, .slice A3 body.length c3], .slice A1 out.length c1] w fun e w' => ∃ v1, e = .returned (.tuple #[v1, .bool (planP body out).2]) ∧ Kd.R (Kd.int .i64) 3 w' w.heap.size (fun _ => True) v1 (planP body out).1 ∧ Below w.heap.size w w' := by
  have HX := Aside0.mk (show RuleAt (w.alloc (.cells #[.int .u8 a, .string b, .slice A2 hd_.length c2, .slice A3 body.length c3] 27)) w.heap.size a b A2 hd_.length c2 A3 body.length c3 from blk_new w _)
  have HB := Aside0.mk (below_alloc (Below.refl w.heap.size w) (.cells #[.int .u8 a, .string b, .slice A2 hd_.length c2, .slice A3 body.length c3] 27))
  have H2 := Aside0.mk (And.intro h2 (And.intro hc2 (And.intro h3 hc3)))
  have HO := Aside0.mk (And.intro h1 hc1)
  have HSm := Aside0.mk hb
  have HL := Aside0.mk hb.1
  have HOL := Aside0.mk ho
  clear h2 hc2 hc3 h3 hb h1 hc1 ho
  go_enter Try.func9, Try.ntmps9
  obtain ⟨x0, x1, x2, x3⟩ := HX.out.cells
  go_wp2_with fail
  obtain ⟨w1, hw1⟩ : ∃ w1, w1 = w.alloc (.cells #[.int .u8 a, .string b, .slice A2 hd_.length c2, .slice A3 body.length c3] 27) := ⟨_, rfl⟩
  rw [← hw1] at HX HB x0 x1 x2 x3 ⊢
  clear hw1
  go_loopw [6] (fun v6 wr => ∃ i : Nat, i ≤ body.length ∧ v6 = .int .i64 i ∧ Aside0 (kindsOk (body.take i) = true) ∧ Aside0 (Below w1.heap.size w1 wr)) (fun v6 _ => body.length - (intOf v6).toNat)
  case atStart => exact ⟨0, by omega, rfl, ⟨rfl⟩, ⟨Below.refl _ _⟩⟩
  case round =>
    clear x0 x1 x2 x3
    obtain ⟨i, hil, rfl, HK, HQ⟩ := hrel
    obtain ⟨x0, x1, x2, x3⟩ := (HX.out.below HQ.out).cells
    have hlen := HL.out
    by_cases hlt : i < body.length
    · have f0 : decide ((i : Int) < (body.length : Int)) = true := decide_eq_true (by omega)
      have HBQ := Aside0.mk (below_step HB.out HQ.out)
      obtain ⟨ad, Ax, cx, ea, hx0, hx1, hx2, hlx, hCx⟩ := lit_cells H2.out.2.2.1 HBQ.out (i := (i : Int)) (by omega) (by omega)
      cases ea
      simp only [Int.toNat_natCast] at hx0 hx1 hx2
      have hkt := kinds_take hlt
      have hbad0 : ∀ x, x = rd_T24 body (i : Int) → ¬ (1 ≤ x.f0 ∧ x.f0 ≤ 4) → kindsOk body = false := fun x hx h => by
        unfold kindsOk
        rw [List.all_eq_false]
        exact ⟨x, by rw [hx]; simp [rd_T24, hlt], by simpa using h⟩
      obtain ⟨x, hx⟩ : ∃ x, x = rd_T24 body (i : Int) := ⟨_, rfl⟩
      rw [← hx] at hx0 hx1 hx2 hkt
      have HKT := Aside0.mk hkt
      have HBAD := Aside0.mk (hbad0 x hx)
      have p1 : (0 ≤ (i : Int)) = True := eq_true (by omega)
      have p2 : ((i : Int) < (body.length : Int)) = True := eq_true (by omega)
      have p3 : (i < body.length) = True := eq_true hlt
      clear hx hkt hbad0 hlx hCx
      by_cases h1 : x.f0 < 1
      · have e1 : decide (x.f0 < 1) = true := decide_eq_true h1
        have HPL := Aside0.mk (show planP body out = ([], false) by unfold planP; rw [HBAD.out (by omega)]; rfl)
        go_wp2
        go_ret2
        exact ⟨_, by rw [HPL.out]; rfl, by rw [HPL.out]; exact Kd.R_nil _ _ _ _ _, HBQ.out⟩
      · have e1 : decide (x.f0 < 1) = false := decide_eq_false h1
        by_cases h4 : 4 < x.f0
        · have e4 : decide (4 < x.f0) = true := decide_eq_true h4
          have HPL := Aside0.mk (show planP body out = ([], false) by unfold planP; rw [HBAD.out (by omega)]; rfl)
          go_wp2
          go_ret2
          exact ⟨_, by rw [HPL.out]; rfl, by rw [HPL.out]; exact Kd.R_nil _ _ _ _ _, HBQ.out⟩
        · have e4 : decide (4 < x.f0) = false := decide_eq_false h4
          go_wp2
          go_roundw
          case measure => simp [intOf]; omega
          case rel => exact ⟨i + 1, by omega, by go_num, ⟨by rw [HKT.out, HK.out, decide_eq_true ⟨by omega, by omega⟩]; rfl⟩, HQ⟩
    · have f0 : decide ((i : Int) < (body.length : Int)) = false := decide_eq_false (by omega)
      have etk : body.take i = body := List.take_of_length_le (by omega)
      rw [etk] at HK
      have HPL := Aside0.mk (show goesP body (body.length - out.length) out (boundP body out) = planP body out by unfold planP; rw [HK.out]; rfl)
      have HX2 := Aside0.mk (HX.out.below HQ.out)
      have HB2 := Aside0.mk (below_step HB.out HQ.out)
      obtain ⟨wa, hwa⟩ : ∃ wa, wa = wr := ⟨_, rfl⟩
      subst hwa
      clear etk HK HQ HX HB
      go_wp2_with (first | ((with_reducible refine gate_dst (N := 32) rfl ?_); refine Kd.R_lit (Kd.int .i64) (w0 := w) w.heap.size 3 ?hg (N := 32) ?hd (xs := ([] : List Int)) (inner := []) (ok := fun _ => True) (okp := fun _ => False) ?hr (Reps.none _ _) (fun _ hk => hk.elim) trivial HB2.out HB2.out.size (by simp) ?_; (case hd => rfl); (case hg => rfl); (case hr => first | (go_simp; done) | (go_simp; rfl)); intro v3 w3 ho hb hg hat; obtain ⟨A3', c3', ev⟩ := Kd.R_slice ho; subst ev; have HX3 := Aside0.mk (show RuleAt w3 w.heap.size a b A2 hd_.length c2 A3 body.length c3 from blk_grown HX2.out hg (by simp)); have HB3 := Aside0.mk hb; have HO3 := Aside0.mk ho; clear ho hb hg hat x0 x1 x2 x3) | ((with_reducible refine gate_builtin (b := .append) (xs := #[.tmp 32, .tmp 33]) rfl ?_); at_builtin; refine Kd.R_append_rows (Kd.int .i64) (w0 := w) w.heap.size rfl (.tmp 32) (.tmp 33) 29 3 (.int .i64 0) 8 rfl Try.underlying29 info3 rfl (by decide) (by omega) (.slice A3' ([] : List Int).length c3') [] out A1 out.length c1 (fun _ => True) (fun _ => False) rfl rfl HO3.out (Kd.C_below HO.out.1 HB3.out) (fun _ _ h => h) (fun _ hk => hk.elim) (fun _ _ => trivial) HB3.out HB3.out.size (by have := HOL.out; simp; omega) ?_; intro v4 w4 ho hb hg hat; have HX4 := Aside0.mk (show RuleAt w4 w.heap.size a b A2 hd_.length c2 A3 body.length c3 from blk_grown HX3.out hg (Kd.R_ne HO3.out HX3.out (by decide))); have HB4 := Aside0.mk hb; have HO4 := Aside0.mk (show Kd.R (Kd.int .i64) 3 w4 w.heap.size (fun _ => True) v4 out from ho); clear ho hb hg hat HX3 HB3 HO3))
      go_loopw [7] (fun v7 wr => ∃ out' : List Int, out'.length ≤ 40 ∧ Aside0 (Kd.R (Kd.int .i64) 3 wr w.heap.size (fun _ => True) v7 out') ∧ Aside0 (RuleAt wr w.heap.size a b A2 hd_.length c2 A3 body.length c3) ∧ Aside0 (Below w.heap.size w wr) ∧ Aside0 (goesP body (body.length - out'.length) out' (boundP body out') = planP body out)) (fun v7 _ => body.length - sliceLen v7)
      case atStart => exact ⟨out, by have := HOL.out; omega, HO4, HX4, HB4, HPL⟩
      case round =>
        clear HX4 HB4 HO4 HX2 HB2
        obtain ⟨out', hol, HR, HX, HB, HG⟩ := hrel
        obtain ⟨Ao, co, ev⟩ := Kd.R_slice HR.out
        subst ev
        obtain ⟨x0, x1, x2, x3⟩ := HX.out.cells
        by_cases hlt2 : out'.length < body.length
        · have f1 : decide ((out'.length : Int) < (body.length : Int)) = true := decide_eq_true (by omega)
          have f1n : decide (out'.length < body.length) = true := decide_eq_true hlt2
          go_wp2_with fail
          refine (next_calls wr a b A2 c2 hd_ (Kd.C_below H2.out.1 HB.out) H2.out.2.1 A3 c3 body (Kd.C_below H2.out.2.2.1 HB.out) H2.out.2.2.2 HSm.out Ao co out' (Kd.R_reads' HR.out).2.2 (Kd.R_reads' HR.out).2.1 (by omega)).mono ?_
          rintro e w5 ⟨rfl, hb⟩
          have HR5 := Aside0.mk (Kd.R_below HR.out hb)
          have HX5 := Aside0.mk (HX.out.below hb)
          have HB5 := Aside0.mk (below_step HB.out hb)
          obtain ⟨n, hn⟩ : ∃ n, n = (scan body (boundP body out') out' body.length 0 (-1) (-1)).2 := ⟨_, rfl⟩
          have HST := Aside0.mk (goes_step hlt2 hn)
          rw [← hn]
          clear hn hb HR HX HB x0 x1 x2 x3
          by_cases hneg : n < 0
          · have fn : decide (n < 0) = true := decide_eq_true hneg
            have HPL2 := Aside0.mk (show planP body out = ([], false) by rw [← HG.out]; exact HST.out.1 hneg)
            go_wp2
            go_ret2
            exact ⟨_, by rw [HPL2.out]; rfl, by rw [HPL2.out]; exact Kd.R_nil _ _ _ _ _, HB5.out⟩
          · have fn : decide (n < 0) = false := decide_eq_false hneg
            have HNN := Aside0.mk (HST.out.2 hneg)
            have hsz5 := HB5.out.size
            go_wp2_with (at_builtin; refine Kd.R_append (Kd.int .i64) (w0 := w) w.heap.size rfl (.tmp 46) (.tmp 48) 29 3 (.int .i64 0) 8 rfl Try.underlying29 info3 rfl (by decide) (by omega) (.slice Ao out'.length co) out' n [.int .i64 n] (fun _ => True) (fun _ => False) rfl rfl ?aP (fun _ hk => hk.elim) ?aF ?aO ?aB ?aS ?aL ?_; (case aP => exact rfl); (case aB => exact HB5.out); (case aF => exact (fun _ _ => trivial)); (case aO => exact HR5.out); (case aS => exact hsz5); (case aL => omega); intro v8 w8 ho hb hg hat; have HO8 := Aside0.mk ho; have HB8 := Aside0.mk hb; have HX8 := Aside0.mk (show RuleAt w8 w.heap.size a b A2 hd_.length c2 A3 body.length c3 from blk_grown HX5.out hg (Kd.R_ne HR5.out HX5.out (by decide))); clear ho hb hg hat)
            obtain ⟨A8, c8, e8⟩ := Kd.R_slice HO8.out
            subst e8
            have hlx : (out' ++ [n]).length = out'.length + 1 := by simp
            refine ⟨⟨out' ++ [n], by omega, HO8, HX8, HB8, ⟨by rw [← HNN.out]; exact HG.out⟩⟩, ?_⟩
            show body.length - (out' ++ [n]).length < body.length - out'.length
            omega
        · have f1 : decide ((out'.length : Int) < (body.length : Int)) = false := decide_eq_false (by omega)
          have f1n : decide (out'.length < body.length) = false := decide_eq_false hlt2
          have hgo := HG.out
          rw [show body.length - out'.length = 0 by omega] at hgo
          have HPL2 := Aside0.mk (show planP body out = (out', true) from hgo.symm)
          clear hgo
          go_wp2
          go_ret2
          exact ⟨_, by rw [HPL2.out]; rfl, by rw [HPL2.out]; exact HR.out, HB.out⟩

set_option maxHeartbeats 1000000 in
set_option maxRecDepth 100000 in
theorem rfrom_calls (w : World) (a : Int) (b : ByteArray) (A2 : Option Addr) (c2 : Nat) (hd_ : List S50) (h2 : Kd.C k50 w A2 hd_.length hd_) (hc2 : hd_.length ≤ c2) (A3 : Option Addr) (c3 : Nat) (body : List S24) (h3 : Kd.C k24 w A3 body.length body) (hc3 : body.length ≤ c3) (hb : Small body) (k : Int) :
    Calls Try.prog 11 #[.agg #[.int .u8 a, .string b, .slice A2 hd_.length c2, .slice A3 body.length c3], .int .i64 k] w fun e w' => ∃ v1, e = .returned (.tuple #[v1, .bool (fromP body k).2]) ∧ Kd.R (Kd.int .i64) 3 w' w.heap.size (fun _ => True) v1 (fromP body k).1 ∧ Below w.heap.size w w' := by
  have HX := Aside0.mk (show RuleAt (w.alloc (.cells #[.int .u8 a, .string b, .slice A2 hd_.length c2, .slice A3 body.length c3] 27)) w.heap.size a b A2 hd_.length c2 A3 body.length c3 from blk_new w _)
  have HB := Aside0.mk (below_alloc (Below.refl w.heap.size w) (.cells #[.int .u8 a, .string b, .slice A2 hd_.length c2, .slice A3 body.length c3] 27))
  have H2 := Aside0.mk (And.intro h2 (And.intro hc2 (And.intro h3 (And.intro hc3 hb))))
  clear h2 hc2 hc3 hb
  obtain ⟨x0, x1, x2, x3⟩ := HX.out.cells
  by_cases k0 : k < 0
  · have f0 : decide (k < 0) = true := decide_eq_true k0
    have HF := Aside0.mk (show fromP body k = ([], false) by unfold fromP; rw [if_neg (fun h => by omega)])
    go_enter Try.func11, Try.ntmps11
    go_wp2
    go_ret2
    exact ⟨_, by rw [HF.out]; rfl, by rw [HF.out]; exact Kd.R_nil _ _ _ _ _, HB.out⟩
  · have f0 : decide (k < 0) = false := decide_eq_false k0
    by_cases k1 : (body.length : Int) ≤ k
    · have f1 : decide ((body.length : Int) ≤ k) = true := decide_eq_true k1
      have HF := Aside0.mk (show fromP body k = ([], false) by unfold fromP; rw [if_neg (fun h => by omega)])
      go_enter Try.func11, Try.ntmps11
      go_wp2
      go_ret2
      exact ⟨_, by rw [HF.out]; rfl, by rw [HF.out]; exact Kd.R_nil _ _ _ _ _, HB.out⟩
    · have f1 : decide ((body.length : Int) ≤ k) = false := decide_eq_false k1
      have p1 : (0 ≤ k) = True := eq_true (by omega)
      have p2 : (k < (body.length : Int)) = True := eq_true (by omega)
      obtain ⟨ad, Ax, cx, ea, hx0, hx1, hx2, hlx, hCx⟩ := at_T24 h3 k (by omega) (by omega)
      cases ea
      obtain ⟨x, hx⟩ : ∃ x, x = rd_T24 body k := ⟨_, rfl⟩
      have hx0 := pw_cell_below HB.out hx0
      rw [← hx] at hx0
      clear hx1 hx2 hlx hCx h3
      by_cases k2 : x.f0 = 1
      · have f2 : (x.f0 != 1) = false := by rw [k2]; rfl
        have HF := Aside0.mk (show fromP body k = planP body [k] by unfold fromP; rw [if_pos ⟨by omega, by omega, by rw [← hx]; exact k2⟩])
        clear k2 hx
        go_enter Try.func11, Try.ntmps11
        go_wp2_with fail
        have hba := below_alloc HB.out (.cells #[.int .i64 k] 3)
        have hCI : Kd.C (Kd.int .i64) ((w.alloc (.cells #[.int .u8 a, .string b, .slice A2 hd_.length c2, .slice (some ad) body.length c3] 27)).alloc (.cells #[.int .i64 k] 3)) (some ⟨w.heap.size + 1, 0, none⟩) [k].length [k] := by
          have h5 := blk_new (w.alloc (.cells #[.int .u8 a, .string b, .slice A2 hd_.length c2, .slice (some ad) body.length c3] 27)) (.cells #[.int .i64 k] 3)
          rw [World.size_alloc] at h5
          exact C_ints [k] (by simp) h5
        refine (goes_calls _ a b A2 c2 hd_ (Kd.C_below H2.out.1 hba) H2.out.2.1 (some ad) c3 body (Kd.C_below H2.out.2.2.1 hba) H2.out.2.2.2.1 H2.out.2.2.2.2 (some ⟨w.heap.size + 1, 0, none⟩) 1 [k] hCI (by simp) (by simp)).mono ?_
        rintro e w1 ⟨v1, rfl, hr, hb1⟩
        have HR := Aside0.mk (Kd.R_lower (base' := w.heap.size) hr hba.size)
        have HB1 := Aside0.mk (below_step hba hb1)
        clear hr hb1 x0 x1 x2 x3 hx0 hba hCI
        go_wp2
        go_ret2
        exact ⟨_, by rw [HF.out]; rfl, by rw [HF.out]; exact HR.out, HB1.out⟩
      · have f2 : (x.f0 != 1) = true := by rw [bne_iff_ne]; exact k2
        have HF := Aside0.mk (show fromP body k = ([], false) by unfold fromP; rw [if_neg (fun h => k2 (by rw [hx]; exact h.2.2))])
        clear k2 hx
        go_enter Try.func11, Try.ntmps11
        go_wp2
        go_ret2
        exact ⟨_, by rw [HF.out]; rfl, by rw [HF.out]; exact Kd.R_nil _ _ _ _ _, HB.out⟩

end Go.Proofs.Ytngamodmbgjajaa.PPlanOrders
