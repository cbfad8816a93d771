/- What InternPlays answers: true. No condition beyond those each theorem names. -/
import Derived.Test.YtjkicljcmognhaaPlaysA
import Derived.Deep.DeepCutAuto
namespace Go.Proofs.Ytjkicljcmognhaa.PInternPlays
open Go.RowKit Go.Proofs.YtjkicljcmognhaaW.PrintWords Go.Proofs.YtjkicljcmognhaaW.PrintLast Go.Proofs.YtjkicljcmognhaaW.PrintMore
set_option linter.unusedVariables false
set_option linter.unusedSimpArgs false
attribute [local go_sem high] eqA31

set_option maxHeartbeats 8000000 in
set_option maxRecDepth 100000 in
theorem Plays_calls (w : World) (A : Option Addr) (c : Nat) (l : List S29) (hl : Kd.C k29 w A l.length l) (hc : l.length ≤ c) :
    Calls Try.prog 3 #[.slice A l.length c] w fun e w' => e = .returned (.bool true) ∧ Below w.heap.size w w' := by
  have HL := Aside0.mk hl
  have HCC := Aside0.mk hc
  clear hl hc
  go_enter Try.func3, Try.ntmps3
  go_wp2_with fail
  refine (New_at w).mono ?_
  rintro e w0 ⟨pb, P0, rfl, hp, hb⟩
  have HQ0 := Aside0.mk hp.bound
  have HB0 := Aside0.mk hb
  clear hp hb
  go_wp2_with fail
  refine (fixed_calls w0).mono ?_
  rintro e w1 ⟨rfl, hb⟩
  have HS := Aside0.mk (show Side w w1 (.pointer (some ⟨pb, 0, none⟩)) (.slice none 0 0) [] from side_of (HQ0.out.below hb) (Kd.R_nil _ _ _ _ (fun _ => False)) (fun _ _ _ _ h => h) (below_step HB0.out hb))
  clear hb HQ0 HB0
  go_wp2_with fail
  go_loopw [4, 5] (fun v3 v4 wr => ∃ (i : Nat) (vs : List S31), i ≤ l.length ∧ i ≤ 200 ∧ v4 = .int .i64 i ∧ Aside0 (Side w wr (.pointer (some ⟨pb, 0, none⟩)) v3 vs)) (fun v3 v4 _ => 200 - (intOf v4).toNat)
  case atStart => exact ⟨0, [], by omega, by omega, rfl, HS⟩
  case round => as_aux_lemma =>
    clear HS
    obtain ⟨i, vs, hil, hi2, rfl, HS⟩ := hrel
    by_cases hlt : i < l.length ∧ i < 200
    · have hd : decide ((i : Int) < (l.length : Int)) = true := decide_eq_true (by omega)
      have hd2 : decide ((i : Int) < 200) = true := decide_eq_true (by omega)
      have hd3 : decide (i < 200) = true := decide_eq_true (by omega)
      obtain ⟨P, H, hp, hh, hdis, hpl, hhl, hvl, hbl⟩ := HS.out
      obtain ⟨Ah, ch, eh⟩ := Kd.R_slice hh
      subst eh
      have HNW := Aside0.mk (show Now w wr.heap.size wr (.pointer (some ⟨pb, 0, none⟩)) Ah ch vs P H from ⟨hp, hh, hdis, hpl, hhl, hvl, hbl, Nat.le_refl _⟩)
      have HB := Aside0.mk hbl
      clear HS hp hh hdis hpl hhl hbl hvl
      obtain ⟨ad, A2, c2, A3, c3, ea, hx0, hx1, hx2, hx3, hl2, hg2, hl3, hg3⟩ := at_T29 HL.out (i : Int) (by omega) (by omega)
      cases ea
      simp only [Int.toNat_natCast] at hx0 hx1 hx2 hx3
      have hx0 := pw_cell_below HB.out hx0
      have hx1 := pw_cell_below HB.out hx1
      have hx2 := pw_cell_below HB.out hx2
      have hx3 := pw_cell_below HB.out hx3
      obtain ⟨x, hx⟩ : ∃ x, x = rd_T29 l (i : Int) := ⟨_, rfl⟩
      rw [← hx] at hx0 hx1 hx2 hx3 hl2 hg2 hl3 hg3
      have HXL := Aside0.mk hx
      have HG := Aside0.mk (And.intro hl2 (And.intro hg2 (And.intro hl3 hg3)))
      clear hx hl2 hg2 hl3 hg3
      by_cases hbig : 50 < x.f2.length ∨ 50 < x.f3.length
      · by_cases h1 : 50 < x.f2.length
        · have d1 : decide ((50 : Int) < (x.f2.length : Int)) = true := decide_eq_true (by omega)
          have d3 : decide (50 < x.f2.length) = true := decide_eq_true (by omega)
          clear hbig
          go_wp2
          go_ret
          exact ⟨rfl, below_alloc HB.out _⟩
        · have d1 : decide ((50 : Int) < (x.f2.length : Int)) = false := decide_eq_false (by omega)
          have d3 : decide (50 < x.f2.length) = false := decide_eq_false (by omega)
          have d2 : decide ((50 : Int) < (x.f3.length : Int)) = true := decide_eq_true (by omega)
          have d4 : decide (50 < x.f3.length) = true := decide_eq_true (by omega)
          clear hbig
          go_wp2
          go_ret
          exact ⟨rfl, below_alloc HB.out _⟩
      · have h1 : x.f2.length ≤ 50 := by omega
        have h2 : x.f3.length ≤ 50 := by omega
        have d1 : decide ((50 : Int) < (x.f2.length : Int)) = false := decide_eq_false (by omega)
        have d2 : decide ((50 : Int) < (x.f3.length : Int)) = false := decide_eq_false (by omega)
        have d3 : decide (50 < x.f2.length) = false := decide_eq_false (by omega)
        have d4 : decide (50 < x.f3.length) = false := decide_eq_false (by omega)
        clear hbig
        go_upto_if 65 with (fail)
        go_cut [] (fun wc => ∃ v : S31, Aside0 (Boxes wc wr.heap.size x v A2 c2 A3 c3) ∧ Aside0 (Below wr.heap.size wr wc))
        case first => as_aux_lemma =>
          by_cases h0 : x.f2.length = 0
          · have e0 : decide ((0 : Int) < (x.f2.length : Int)) = false := decide_eq_false (by omega)
            have e1 : decide (0 < x.f2.length) = false := decide_eq_false (by omega)
            go_wp2
            go_meet
            case rel => exact ⟨z31, ⟨boxes_two wr x z31 A2 c2 A3 c3⟩, ⟨below_alloc (below_alloc (Below.refl _ wr) _) _⟩⟩
          · have e0 : decide ((0 : Int) < (x.f2.length : Int)) = true := decide_eq_true (by omega)
            have e1 : decide (0 < x.f2.length) = true := decide_eq_true (by omega)
            obtain ⟨a2, ea2, hv0, hv1⟩ := at_T31 (Kd.C_below (Kd.C_below HG.out.2.1 HB.out) (below_alloc (below_alloc (Below.refl _ wr) (.cells #[.int .i64 x.f0, .int .i64 x.f1, .slice A2 x.f2.length c2, .slice A3 x.f3.length c3] 29)) (.cells #[.string ⟨#[]⟩, .int .i64 0] 31))) 0 (by omega) (by omega)
            cases ea2
            have hz : a2.add ((0 : Int).toNat * 2) = a2 := addr_zero a2
            rw [hz] at hv0 hv1
            obtain ⟨v, hv⟩ : ∃ v, v = rd_T31 x.f2 0 := ⟨_, rfl⟩
            rw [← hv] at hv0 hv1
            clear hz hv
            go_wp2
            go_meet
            case rel =>
              exact ⟨v, ⟨boxes_two wr x v (some a2) c2 A3 c3⟩, ⟨below_alloc (below_alloc (Below.refl _ wr) _) _⟩⟩
        case rest => as_aux_lemma =>
          obtain ⟨v, HX, HBc⟩ := hcut
          have hx0 := HX.out.cells.1
          go_upto_region 14 with (fail)
          go_cut [74] (fun v74 wd => wd = wc ∧ ∃ q : Int, v74 = .int .i64 q ∧ 0 ≤ q ∧ q < 6)
          case first => as_aux_lemma =>
            go_wp2
            go_meet
            case rel => exact ⟨rfl, _, rfl, (kind_in x.f0).1, (kind_in x.f0).2⟩
          case rest => as_aux_lemma =>
            obtain ⟨rfl, q, rfl, hq0, hq6⟩ := hcut
            have HNC := Aside0.mk (HNW.out.below HBc.out)
            have HBw := Aside0.mk (below_step HB.out HBc.out)
            clear HNW HBc HB hx0
            go_step
            go_cut [4] (fun v4 we => ∃ vs' : List S31, Aside0 (Side w we (.pointer (some ⟨pb, 0, none⟩)) v4 vs'))
            case first => as_aux_lemma =>
              rcases which hq0 hq6 with rfl | rfl | rfl | rfl | rfl | rfl
              all_goals clear hq0 hq6
              all_goals obtain ⟨x0, x1, x2, x3, y0, y1⟩ := HX.out.cells
              · as_aux_lemma =>
                obtain ⟨hp, hh, hd, hpl, hhl, hvl, hbw, hsz⟩ := HNC.out
                rcases put_both hp hbw.size v with ⟨hc, hrow⟩ | ⟨er, her, hc, hrow⟩
                · have HC := Aside0.mk hc
                  have HROW := Aside0.mk hrow
                  clear hc hrow hp hh hd hpl hhl hvl hbw hsz
                  go_wp2_with fail
                  refine HC.out.mono ?_
                  rintro e w2 ⟨P2, rfl, hP2, hp2, hb2, hk2⟩
                  have HP2 := Aside0.mk (And.intro hP2 (And.intro hp2 (And.intro hb2 hk2)))
                  have hX2 := HX.out.kept hk2 HNC.out.2.2.2.1
                  clear x0 x1 x2 x3 y0 y1 hP2 hp2 hb2 hk2
                  obtain ⟨x0, x1, x2, x3, y0, y1⟩ := hX2.cells
                  have HX2 := Aside0.mk hX2
                  clear hX2
                  go_wp2_with fail
                  refine (ref_one v rfl (HBw.out.trans HP2.out.2.2.1) (Kd.R_kept HNC.out.2.1 HP2.out.2.2.2 (fun k h h' => HNC.out.2.2.1 k h' h)) (fun k h => by have := (HNC.out.2.2.2.2.1 k h).2; have := HP2.out.2.2.1.size; have := HNC.out.2.2.2.2.2.2.2; omega) HNC.out.2.2.2.2.2.1 HROW.out).mono ?_
                  rintro e w3 ⟨v0, v1, rfl, hR0, hR1, hb3, hk3⟩
                  have HSD := Aside0.mk (side_put HNC.out HP2.out.1 HP2.out.2.1 hk3 hR0 hb3)
                  obtain ⟨A1, c1, rfl⟩ := Kd.R_slice hR1
                  obtain ⟨a1, ea, hx⟩ := Kd.at_int (Kd.R_reads' hR1).2.2 0 (by omega) (by simp)
                  cases ea
                  have hw0 : w3.cell? a1 = some (.int .i64 (num (addOne vs v) v)) := by rw [addr_zero] at hx; exact hx
                  clear hx hR0 hR1 hb3 hk3 x0 x1 x2 x3 y0 y1
                  go_wp2
                  go_meet
                  case rel => exact ⟨_, HSD⟩
                · have HC := Aside0.mk hc
                  have HROW := Aside0.mk hrow
                  clear hc hrow hp hh hd hpl hhl hvl hbw hsz
                  go_wp2_with fail
                  refine HC.out.mono ?_
                  rintro e w2 ⟨P2, rfl, hP2, hp2, hb2, hk2⟩
                  have HP2 := Aside0.mk (And.intro hP2 (And.intro hp2 (And.intro hb2 hk2)))
                  have hX2 := HX.out.kept hk2 HNC.out.2.2.2.1
                  clear x0 x1 x2 x3 y0 y1 hP2 hp2 hb2 hk2
                  obtain ⟨x0, x1, x2, x3, y0, y1⟩ := hX2.cells
                  have HX2 := Aside0.mk hX2
                  clear hX2
                  go_wp2_with fail
                  refine (ref_one v rfl (HBw.out.trans HP2.out.2.2.1) (Kd.R_kept HNC.out.2.1 HP2.out.2.2.2 (fun k h h' => HNC.out.2.2.1 k h' h)) (fun k h => by have := (HNC.out.2.2.2.2.1 k h).2; have := HP2.out.2.2.1.size; have := HNC.out.2.2.2.2.2.2.2; omega) HNC.out.2.2.2.2.2.1 HROW.out).mono ?_
                  rintro e w3 ⟨v0, v1, rfl, hR0, hR1, hb3, hk3⟩
                  have HSD := Aside0.mk (side_put HNC.out HP2.out.1 HP2.out.2.1 hk3 hR0 hb3)
                  clear hR0 hR1 hb3 hk3 x0 x1 x2 x3 y0 y1
                  rcases her with rfl | rfl
                  all_goals go_wp2
                  all_goals go_meet
                  case rel => exact ⟨_, HSD⟩
                  case rel => exact ⟨_, HSD⟩
              · as_aux_lemma =>
                go_wp2_with fail
                refine Calls.mono (Find_any HNC.out.1.v v) ?_
                rintro e w2 ⟨rfl, hb2⟩
                have HB2 := Aside0.mk hb2
                have HX2 := Aside0.mk (HX.out.below hb2)
                have HSD := Aside0.mk (show Side w w2 (.pointer (some ⟨pb, 0, none⟩)) (.slice Ah vs.length ch) vs from side_of (HNC.out.1.below hb2) (Kd.R_below HNC.out.2.1 hb2) (fun k h _ _ => HNC.out.2.2.1 k h) (below_step HBw.out hb2))
                clear x0 x1 x2 x3 y0 y1 hb2
                obtain ⟨x0, x1, x2, x3, y0, y1⟩ := HX2.out.cells
                have HHR := Aside0.mk (Kd.R_reads' (Kd.R_below HNC.out.2.1 HB2.out))
                go_wp2_with fail
                refine Calls.mono (refFind_calls Ah ch vs v w2 HHR.out.2.2 HHR.out.2.1 (by have := HNC.out.2.2.2.2.2.1; omega)) ?_
                rintro e w3 ⟨rfl, hb3⟩
                have HSD3 := Aside0.mk (HSD.out.below hb3)
                clear x0 x1 x2 x3 y0 y1 hb3
                unfold fnd
                cases hidx : idx vs v with
                | none =>
                  simp only [Option.map_none, Option.getD_none, Option.isSome_none]
                  go_wp2
                  go_meet
                  case rel => exact ⟨_, HSD3⟩
                | some j =>
                  simp only [Option.map_some, Option.getD_some, Option.isSome_some]
                  have hmx : max (j : Int) 0 = j := by omega
                  go_wp2
                  go_meet
                  case rel => exact ⟨_, HSD3⟩
              · as_aux_lemma =>
                have hget : (0 ≤ x.f1 ∧ x.f1 < vs.length ∧ getV vs x.f1 = (rd_T31 vs x.f1, true)) ∨ (¬ (0 ≤ x.f1 ∧ x.f1 < vs.length) ∧ getV vs x.f1 = (z31, false)) := by
                  by_cases h : 0 ≤ x.f1 ∧ x.f1 < vs.length
                  · exact .inl ⟨h.1, h.2, by unfold getV; rw [if_pos h]⟩
                  · exact .inr ⟨h, by unfold getV; rw [if_neg h]⟩
                rcases hget with ⟨g0, g1, hg⟩ | ⟨hn, hg⟩
                · obtain ⟨y, hy⟩ : ∃ y, y = rd_T31 vs x.f1 := ⟨_, rfl⟩
                  rw [← hy] at hg
                  have HGV := Aside0.mk hg
                  have HY := Aside0.mk hy
                  clear hg hy
                  have e0 : decide (0 ≤ x.f1) = true := decide_eq_true g0
                  have e1 : decide (x.f1 < (vs.length : Int)) = true := decide_eq_true g1
                  go_wp2_with fail
                  refine Calls.mono (by have := Get_any HNC.out.1.v x.f1; rw [HGV.out] at this; unfold vv at this; exact this) ?_
                  rintro e w2 ⟨rfl, hb2⟩
                  have HSD := Aside0.mk (show Side w (w2.alloc (.cells #[.string y.f0, .int .i64 y.f1] 31)) (.pointer (some ⟨pb, 0, none⟩)) (.slice Ah vs.length ch) vs from side_of ((HNC.out.1.below hb2).below (below_alloc (Below.refl _ _) _)) (Kd.R_alloc (Kd.R_below HNC.out.2.1 hb2) _) (fun k h _ _ => HNC.out.2.2.1 k h) (below_alloc (below_step HBw.out hb2) _))
                  have hX2 := (HX.out.below hb2).below (below_alloc (Below.refl _ _) (.cells #[.string y.f0, .int .i64 y.f1] 31))
                  obtain ⟨ah, eah, hv0, hv1⟩ := at_T31 (Kd.R_reads' (Kd.R_alloc (Kd.R_below HNC.out.2.1 hb2) (.cells #[.string y.f0, .int .i64 y.f1] 31))).2.2 x.f1 g0 g1
                  cases eah
                  rw [← HY.out] at hv0 hv1
                  clear x0 x1 x2 x3 y0 y1 hb2
                  obtain ⟨x0, x1, x2, x3, y0, y1⟩ := hX2.cells
                  clear hX2
                  have u0 := blk_cell (blk_new w2 (.cells #[.string y.f0, .int .i64 y.f1] 31)) 0
                  have u1 := blk_cell (blk_new w2 (.cells #[.string y.f0, .int .i64 y.f1] 31)) 1
                  go_wp2
                  go_region
                  all_goals go_wp2
                  all_goals go_meet
                  all_goals exact ⟨_, ⟨HSD.out.below (below_drew (Below.refl _ _))⟩⟩
                · have HGV := Aside0.mk hg
                  clear hg
                  have hcs : (decide (0 ≤ x.f1) = false) ∨ (decide (0 ≤ x.f1) = true ∧ decide (x.f1 < (vs.length : Int)) = false) := by
                    by_cases h : 0 ≤ x.f1
                    · exact .inr ⟨decide_eq_true h, decide_eq_false (fun h' => hn ⟨h, h'⟩)⟩
                    · exact .inl (decide_eq_false h)
                  clear hn
                  go_wp2_with fail
                  refine Calls.mono (by have := Get_any HNC.out.1.v x.f1; rw [HGV.out] at this; unfold vv z31 at this; exact this) ?_
                  rintro e w2 ⟨rfl, hb2⟩
                  have HSD := Aside0.mk (show Side w (w2.alloc (.cells #[.string ⟨#[]⟩, .int .i64 0] 31)) (.pointer (some ⟨pb, 0, none⟩)) (.slice Ah vs.length ch) vs from side_of ((HNC.out.1.below hb2).below (below_alloc (Below.refl _ _) _)) (Kd.R_alloc (Kd.R_below HNC.out.2.1 hb2) _) (fun k h _ _ => HNC.out.2.2.1 k h) (below_alloc (below_step HBw.out hb2) _))
                  have hX2 := (HX.out.below hb2).below (below_alloc (Below.refl _ _) (.cells #[.string ⟨#[]⟩, .int .i64 0] 31))
                  clear x0 x1 x2 x3 y0 y1 hb2
                  obtain ⟨x0, x1, x2, x3, y0, y1⟩ := hX2.cells
                  clear hX2
                  have u0 := blk_cell (blk_new w2 (.cells #[.string ⟨#[]⟩, .int .i64 0] 31)) 0
                  have u1 := blk_cell (blk_new w2 (.cells #[.string ⟨#[]⟩, .int .i64 0] 31)) 1
                  rcases hcs with e0 | ⟨e0, e1⟩
                  · go_wp2
                    go_region
                    all_goals go_wp2
                    all_goals go_meet
                    all_goals exact ⟨_, ⟨HSD.out.below (below_drew (Below.refl _ _))⟩⟩
                  · go_wp2
                    go_region
                    all_goals go_wp2
                    all_goals go_meet
                    all_goals exact ⟨_, ⟨HSD.out.below (below_drew (Below.refl _ _))⟩⟩
              · as_aux_lemma =>
                have HROW := Aside0.mk (show rowF vs x.f2 = (rowVs 4096 vs x.f2, rowNs 4096 vs x.f2, rowE 4096 vs x.f2) from rfl)
                have HLN := Aside0.mk (show (rowNs 4096 vs x.f2).length ≤ 50 by unfold rowNs; split <;> simp; omega)
                obtain ⟨z0, z1, z2, z3, _, _⟩ := (HX.out.below (below_alloc (Below.refl _ _) (.cells #[] 31))).cells
                go_wp2_with (at_builtin; refine copy_vals rfl (.tmp 182) (.tmp 184) rfl rfl A2 c2 x.f2 rfl rfl (Kd.C_below HG.out.2.1 HBw.out) (by omega) ?_; intro A1 c1 w2 ho hb; have HO := Aside0.mk ho; have HB2 := Aside0.mk hb; clear ho hb)
                refine (row_copy HNC.out.1 HBw.out.size HB2.out HO.out (by omega)).mono ?_
                rintro e w3 ⟨A0, c0, P', rfl, hP', hp3, hr3, hb3, hk3⟩
                obtain ⟨rv, hrv⟩ : ∃ rv, rv = rowVs 4096 vs x.f2 := ⟨_, rfl⟩
                obtain ⟨ns, hns⟩ : ∃ ns, ns = rowNs 4096 vs x.f2 := ⟨_, rfl⟩
                obtain ⟨er, her⟩ : ∃ er, er = rowE 4096 vs x.f2 := ⟨_, rfl⟩
                rw [← hrv, ← hns, ← her] at HROW
                rw [← hns] at HLN hr3 ⊢
                rw [← hrv] at hp3
                rw [← her]
                have HP3 := Aside0.mk (And.intro hP' (And.intro hp3 (And.intro hr3 (And.intro hb3 hk3))))
                have hX3 := HX.out.kept hk3 HNC.out.2.2.2.1
                clear x0 x1 x2 x3 y0 y1 z0 z1 z2 z3 hP' hp3 hr3 hb3 hk3 hrv hns her
                obtain ⟨x0, x1, x2, x3, y0, y1⟩ := hX3.cells
                clear hX3
                go_wp2_with fail
                refine (refRow_calls H (.slice Ah vs.length ch) vs A2 c2 x.f2 rv ns er w w3 (HBw.out.trans HP3.out.2.2.2.1) (Kd.R_kept HNC.out.2.1 HP3.out.2.2.2.2 (fun k h h' => HNC.out.2.2.1 k h' h)) (Kd.C_kept_came (Kd.heap_iso _ (Kd.heap_pair Kd.heap_string (Kd.heap_int _))) HG.out.2.1 (HBw.out.trans HP3.out.2.2.2.1) (fun k h => (HNC.out.2.2.2.2.1 k h).1)) HG.out.1 HNC.out.2.2.2.2.2.1 h1 HROW.out).mono ?_
                rintro e w4 ⟨v0, v1, rfl, hR0, hR1, hb4, hk4⟩
                have HSD := Aside0.mk (side_put HNC.out HP3.out.1 HP3.out.2.1 hk4 hR0 hb4)
                obtain ⟨A1, c1, rfl⟩ := Kd.R_slice hR1
                have HN0 := Aside0.mk (Kd.R_reads' (Kd.R_kept HP3.out.2.2.1 hk4 (fun k h h' => by have := (HNC.out.2.2.2.2.1 k h').2; have := HNC.out.2.2.2.2.2.2.2; have := h.2; omega)))
                have HN1 := Aside0.mk (Kd.R_reads' hR1)
                clear hR0 hR1 hb4 hk4 x0 x1 x2 x3 y0 y1
                go_wp2_with (go_at_call 16; refine Calls.mono (numbers_calls A0 c0 A1 c1 ns _ HN0.out.2.2 HN0.out.2.1 HN1.out.2.2 HN1.out.2.1 (by have := HLN.out; omega)) ?_; rintro e w5 ⟨rfl, ⟨nd, rfl⟩⟩)
                go_meet
                case rel => exact ⟨_, ⟨HSD.out.below (pw_below_drewN (Below.refl _ _) _)⟩⟩
              · as_aux_lemma =>
                obtain ⟨wo, hwo⟩ : ∃ wo, wo = wr := ⟨_, rfl⟩
                subst hwo
                obtain ⟨z0, z1, z2, z3, _, _⟩ := (HX.out.below (below_alloc (Below.refl _ _) (.cells #[] 3))).cells
                go_wp2_with (at_builtin; refine copy_ints rfl (.tmp 211) (.tmp 213) rfl rfl A3 c3 x.f3 rfl rfl (Kd.C_below HG.out.2.2.2 HBw.out) (by omega) ?_; intro A1 c1 w2 ho hb; have HO := Aside0.mk ho; have HB2 := Aside0.mk hb; clear ho hb)
                refine Calls.mono (Values_any (HNC.out.1.below HB2.out).v A1 c1 x.f3 (Kd.R_reads' HO.out).2.2 (Kd.R_reads' HO.out).2.1 (by omega)) ?_
                rintro e w3 ⟨v0, rfl, ho, hb⟩
                obtain ⟨us, hus⟩ : ∃ us, us = valsOf vs x.f3 := ⟨_, rfl⟩
                rw [← hus] at ho
                have HUS := Aside0.mk hus
                obtain ⟨Au, cu, rfl⟩ := Kd.R_slice ho
                have HB3 := Aside0.mk (below_step HB2.out hb)
                have HU := Aside0.mk (Kd.R_bound ho)
                have HN3 := Aside0.mk ((HNC.out.below HB2.out).below hb)
                have HX3 := Aside0.mk ((HX.out.below HB2.out).below hb)
                obtain ⟨b, hbe⟩ : ∃ b, b = allIn vs x.f3 := ⟨_, rfl⟩
                rw [← hbe]
                have HBE := Aside0.mk hbe
                have HB3w := Aside0.mk (below_step HBw.out HB3.out)
                clear x0 x1 x2 x3 y0 y1 z0 z1 z2 z3 ho hb hus hbe HB2 HO
                go_wp2_with fail
                go_loopw [27, 28] (fun v27 v28 wr => ∃ k : Nat, k ≤ x.f3.length ∧ v28 = .int .i64 k ∧ v27 = .bool (allIn vs (x.f3.take k)) ∧ Aside0 (Below w3.heap.size w3 wr)) (fun v27 v28 _ => x.f3.length - (intOf v28).toNat)
                case atStart => exact ⟨0, by omega, rfl, rfl, ⟨Below.refl _ _⟩⟩
                case round =>
                  obtain ⟨k, hkl, rfl, rfl, HQ⟩ := hrel
                  obtain ⟨x0, x1, x2, x3, y0, y1⟩ := (HX3.out.below HQ.out).cells
                  by_cases hkk : k < x.f3.length
                  · have f0 : decide ((k : Int) < (x.f3.length : Int)) = true := decide_eq_true (by omega)
                    obtain ⟨a3, ea3, hn⟩ := Kd.at_int (Kd.C_below HG.out.2.2.2 (below_step HB3w.out HQ.out)) (k : Int) (by omega) (by omega)
                    cases ea3
                    simp only [Int.toNat_natCast] at hn
                    obtain ⟨n, hne⟩ : ∃ n, n = rd x.f3 (k : Int) := ⟨_, rfl⟩
                    rw [← hne] at hn
                    have htk : x.f3.take (k + 1) = x.f3.take k ++ [n] := by rw [List.take_add_one, hne]; simp [rd, hkk]
                    have HT := Aside0.mk htk
                    have hall : allIn vs (x.f3.take (k + 1)) = (allIn vs (x.f3.take k) && decide (0 ≤ n ∧ n < vs.length)) := by
                      rw [htk]; unfold allIn; rw [List.all_append]; simp
                    have HALL := Aside0.mk hall
                    clear hne htk hall
                    rcases hbv : allIn vs (x.f3.take k) with _ | _
                    · go_wp2
                      go_roundw
                      case measure => simp [intOf]; omega
                      case rel => exact ⟨k + 1, by omega, by go_num, by rw [HALL.out, hbv]; rfl, HQ⟩
                    · by_cases hn0 : 0 ≤ n
                      · have f1 : decide (0 ≤ n) = true := decide_eq_true hn0
                        by_cases hn1 : n < vs.length
                        · have f2 : decide (n < (vs.length : Int)) = true := decide_eq_true hn1
                          go_wp2
                          go_roundw
                          case measure => simp [intOf]; omega
                          case rel => exact ⟨k + 1, by omega, by go_num, by rw [HALL.out, hbv, decide_eq_true ⟨hn0, hn1⟩]; rfl, HQ⟩
                        · have f2 : decide (n < (vs.length : Int)) = false := decide_eq_false hn1
                          go_wp2
                          go_roundw
                          case measure => simp [intOf]; omega
                          case rel => exact ⟨k + 1, by omega, by go_num, by rw [HALL.out, hbv, decide_eq_false (fun h => hn1 h.2)]; rfl, HQ⟩
                      · have f1 : decide (0 ≤ n) = false := decide_eq_false hn0
                        go_wp2
                        go_roundw
                        case measure => simp [intOf]; omega
                        case rel => exact ⟨k + 1, by omega, by go_num, by rw [HALL.out, hbv, decide_eq_false (fun h => hn0 h.1)]; rfl, HQ⟩
                  · have f0 : decide ((k : Int) < (x.f3.length : Int)) = false := decide_eq_false (by omega)
                    have etk : x.f3.take k = x.f3 := List.take_of_length_le (by omega)
                    rw [etk, ← HBE.out]
                    clear etk
                    obtain ⟨wp, hwp⟩ : ∃ wp, wp = wr := ⟨_, rfl⟩
                    subst hwp
                    go_wp2_with fail
                    go_loopw [26, 29] (fun v26 v29 wr => ∃ (k : Nat) (xs : List S31), k ≤ x.f3.length ∧ v29 = .int .i64 k ∧ (b = false → k = 0) ∧ Aside0 (xs = (x.f3.take k).map (rd_T31 vs)) ∧ Aside0 (Kd.R k31 31 wr w3.heap.size (fun j => w3.heap.size ≤ j) v26 xs) ∧ Aside0 (Below w3.heap.size w3 wr)) (fun v26 v29 _ => x.f3.length - (intOf v29).toNat)
                    case atStart => exact ⟨0, [], by omega, rfl, fun _ => rfl, ⟨rfl⟩, ⟨Kd.R_nil _ _ _ _ _⟩, HQ⟩
                    case round =>
                      obtain ⟨k, xs, hkl, rfl, hbk, HXS, HO, HQ2⟩ := hrel
                      obtain ⟨x0, x1, x2, x3, y0, y1⟩ := (HX3.out.below HQ2.out).cells
                      obtain ⟨Ao, co, eo⟩ := Kd.R_slice HO.out
                      subst eo
                      have hvl := HNC.out.2.2.2.2.2.1
                      by_cases hgo : b = true ∧ k < x.f3.length
                      · obtain ⟨hbt, hkk⟩ := hgo
                        subst hbt
                        have f0n : decide (k < x.f3.length) = true := decide_eq_true hkk
                        have f0 : decide ((k : Int) < (x.f3.length : Int)) = true := decide_eq_true (by omega)
                        obtain ⟨a3, ea3, hn⟩ := Kd.at_int (Kd.C_below HG.out.2.2.2 (below_step HB3w.out HQ2.out)) (k : Int) (by omega) (by omega)
                        cases ea3
                        simp only [Int.toNat_natCast] at hn
                        obtain ⟨n, hne⟩ : ∃ n, n = rd x.f3 (k : Int) := ⟨_, rfl⟩
                        rw [← hne] at hn
                        have htk : x.f3.take (k + 1) = x.f3.take k ++ [n] := by rw [List.take_add_one, hne]; simp [rd, hkk]
                        have hin : 0 ≤ n ∧ n < vs.length := by
                          have h := HBE.out.symm
                          unfold allIn at h
                          have := List.all_eq_true.1 h n (List.mem_of_mem_take (i := k + 1) (by rw [htk]; simp))
                          simpa using this
                        have HT := Aside0.mk htk
                        obtain ⟨hn0, hn1⟩ := hin
                        obtain ⟨ah, eah, hv0, hv1⟩ := at_T31 (Kd.R_reads' (HN3.out.below HQ2.out).2.1).2.2 n hn0 hn1
                        cases eah
                        obtain ⟨y, hy⟩ : ∃ y, y = rd_T31 vs n := ⟨_, rfl⟩
                        rw [← hy] at hv0 hv1
                        have HY := Aside0.mk hy
                        have HL2 := Aside0.mk (show xs.length ≤ 50 by rw [HXS.out]; simp; omega)
                        clear hne htk hy
                        go_wp2_with (at_builtin; refine Kd.R_append k31 (w0 := w3) w3.heap.size rfl (.tmp 254) (.tmp 263) 26 31 (.agg #[(.string ⟨#[]⟩), (.int .i64 0)]) 24 rfl Try.underlying26 info31 rfl (by decide) (by omega) (.slice Ao xs.length co) xs y [.string y.f0, .int .i64 y.f1] (fun j => w3.heap.size ≤ j) (fun _ => False) rfl ?aX (k31_mkM _ _ _ y) (fun _ hk => hk.elim) ?aF ?aO ?aB ?aS ?aL ?_; (case aX => first | rfl | (simp [Act.eval]; done)); (case aO => exact HO.out); (case aB => exact HQ2.out); (case aS => exact HQ2.out.size); (case aF => exact (fun k hk => Nat.le_trans HQ2.out.size hk)); (case aL => have := HL2.out; omega); intro v5 w5 ho hb hg hat; have HO5 := Aside0.mk ho; have HB5 := Aside0.mk hb; clear ho hb hg hat)
                        go_roundw
                        case measure => simp [intOf]; omega
                        case rel => exact ⟨k + 1, xs ++ [y], by omega, by go_num, (fun h => by cases h), ⟨by rw [HT.out, HXS.out, HY.out]; simp⟩, HO5, HB5⟩
                      · have hux : xs = us := by
                          rw [HXS.out, HUS.out]
                          unfold valsOf
                          rw [← HBE.out]
                          rcases hbv : b with _ | _
                          · rw [hbk hbv]; rfl
                          · rw [if_pos rfl, List.take_of_length_le (by have : ¬ k < x.f3.length := fun h => hgo ⟨hbv, h⟩; omega)]
                        subst hux
                        have HL2 := Aside0.mk (show xs.length ≤ 50 by rw [HXS.out]; simp; omega)
                        have HU5 := Aside0.mk (Kd.R_reads' (Kd.R_below HU.out HQ2.out))
                        have HO5 := Aside0.mk (Kd.R_reads' HO.out)
                        have HSD := Aside0.mk (show Side w wr (.pointer (some ⟨pb, 0, none⟩)) (.slice Ah vs.length ch) vs from side_of (HN3.out.below HQ2.out).1 (HN3.out.below HQ2.out).2.1 (fun k h _ _ => HNC.out.2.2.1 k h) (below_step HB3w.out HQ2.out))
                        rcases hbv : b with _ | _
                        · go_wp2_with (go_at_call 18; refine Calls.mono (values_calls Au cu Ao co xs _ HU5.out.2.2 HU5.out.2.1 HO5.out.2.2 HO5.out.2.1 (by have := HL2.out; omega)) ?_; rintro e w5 ⟨rfl, ⟨nd, rfl⟩⟩)
                          go_meet
                          case rel => exact ⟨_, ⟨HSD.out.below (pw_below_drewN (Below.refl _ _) _)⟩⟩
                        · have f0 : decide ((k : Int) < (x.f3.length : Int)) = false := decide_eq_false (by have : ¬ k < x.f3.length := fun h => hgo ⟨hbv, h⟩; omega)
                          have f0n : decide (k < x.f3.length) = false := decide_eq_false (fun h => hgo ⟨hbv, h⟩)
                          go_wp2_with (go_at_call 18; refine Calls.mono (values_calls Au cu Ao co xs _ HU5.out.2.2 HU5.out.2.1 HO5.out.2.2 HO5.out.2.1 (by have := HL2.out; omega)) ?_; rintro e w5 ⟨rfl, ⟨nd, rfl⟩⟩)
                          go_meet
                          case rel => exact ⟨_, ⟨HSD.out.below (pw_below_drewN (Below.refl _ _) _)⟩⟩
              · as_aux_lemma =>
                go_wp2_with fail
                refine (Clear_any HNC.out.1 HBw.out.size).mono ?_
                rintro e w2 ⟨rfl, hp2, hk2, hb2⟩
                have HSD := Aside0.mk (show Side w w2 (.pointer (some ⟨pb, 0, none⟩)) (.slice none 0 0) [] from side_of hp2 (Kd.R_nil _ _ _ _ (fun _ => False)) (fun _ _ _ _ h => h) (HBw.out.trans hb2))
                clear hp2 hk2 hb2 x0 x1 x2 x3 y0 y1
                go_wp2
                go_meet
                case rel => exact ⟨_, HSD⟩
            case rest => as_aux_lemma =>
              obtain ⟨vs', HS⟩ := hcut
              obtain ⟨P', H', hp, hh, hdis, hpl, hhl, hvl, hbl⟩ := HS.out
              obtain ⟨Ah', ch', eh⟩ := Kd.R_slice hh
              subst eh
              have HP := Aside0.mk hp.v
              clear hp hh hdis hpl hhl hvl hbl
              go_wp2_with fail
              refine Calls.mono (Len_any HP.out) ?_
              rintro e w9 ⟨rfl, ⟨nd, rfl⟩⟩
              have HS2 := Aside0.mk (HS.out.below (pw_below_drewN (Below.refl _ wc) nd))
              go_wp2_with fail
              go_roundw
              case measure => simp [intOf]; omega
              case rel => exact ⟨i + 1, vs', by omega, by omega, by go_num, HS2⟩
    · obtain ⟨P, H, hp, hh, hdis, hpl, hhl, hvl, hbl⟩ := HS.out
      have HB := Aside0.mk hbl
      clear HS hp hh hdis hpl hhl hvl hbl
      by_cases hll : i < l.length
      · have hd : decide ((i : Int) < (l.length : Int)) = true := decide_eq_true (by omega)
        have hd2 : decide ((i : Int) < 200) = false := decide_eq_false (by omega)
        have hd3 : decide (i < 200) = false := decide_eq_false (by omega)
        go_wp2
        go_ret
        exact ⟨rfl, HB.out⟩
      · have hd : decide ((i : Int) < (l.length : Int)) = false := decide_eq_false (by omega)
        go_wp2
        go_ret
        exact ⟨rfl, HB.out⟩

end Go.Proofs.Ytjkicljcmognhaa.PInternPlays
