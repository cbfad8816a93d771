/- What InternBack answers: true. No condition beyond those each theorem names. -/
import Derived.Test.YtjkicljcmognhaaPures
namespace Go.Proofs.Ytjkicljcmognhaa.PInternPlays
open Go.RowKit Go.Proofs.YtjkicljcmognhaaW.PrintWords Go.Proofs.YtjkicljcmognhaaW.PrintLast Go.Proofs.YtjkicljcmognhaaW.PrintMore
set_option linter.unusedVariables false
set_option linter.unusedSimpArgs false
attribute [local go_sem high] eqA31

set_option maxHeartbeats 1000000 in
set_option maxRecDepth 100000 in
theorem Back_calls (w : World) (A : Option Addr) (c : Nat) (l : List S31) (hl : Kd.C k31 w A l.length l) (hc : l.length ≤ c) (hm : l.length ≤ 9223372036854775807) (A' : Option Addr) (c' : Nat) (more : List S31) (hl' : Kd.C k31 w A' more.length more) (hc' : more.length ≤ c') (hm' : more.length ≤ 9223372036854775807) :
    Calls Try.prog 5 #[.slice A l.length c, .slice A' more.length c'] w fun e w' => e = .returned (.bool true) ∧ Below w.heap.size w w' := by
  have HL := Aside0.mk hl
  have HL' := Aside0.mk hl'
  have HCC := Aside0.mk hc
  clear hl hl' hc hc'
  go_enter Try.func5, Try.ntmps5
  go_wp2_with fail
  refine (New_at w).mono ?_
  rintro e w1 ⟨pb, P1, rfl, hp, hb⟩
  have HQ1 := Aside0.mk hp
  have HB1 := Aside0.mk hb
  clear hp hb
  go_wp2_with fail
  refine (fixed_calls w1).mono ?_
  rintro e w2 ⟨rfl, hb⟩
  have HQ2 := Aside0.mk (HQ1.out.below hb)
  have HB2 := Aside0.mk (below_step HB1.out hb)
  clear hb HQ1 HB1
  by_cases hbig : 200 < l.length ∨ 200 < more.length
  · by_cases h1 : 200 < l.length
    · have d1 : decide ((200 : Int) < (l.length : Int)) = true := decide_eq_true (by omega)
      have d3 : decide (200 < l.length) = true := decide_eq_true (by omega)
      clear hbig
      go_wp2
      go_ret
      exact ⟨rfl, HB2.out⟩
    · have d1 : decide ((200 : Int) < (l.length : Int)) = false := decide_eq_false (by omega)
      have d3 : decide (200 < l.length) = false := decide_eq_false (by omega)
      have d2 : decide ((200 : Int) < (more.length : Int)) = true := decide_eq_true (by omega)
      have d4 : decide (200 < more.length) = true := decide_eq_true (by omega)
      clear hbig
      go_wp2
      go_ret
      exact ⟨rfl, HB2.out⟩
  · have h1 : l.length ≤ 200 := by omega
    have h2 : more.length ≤ 200 := by omega
    have d1 : decide ((200 : Int) < (l.length : Int)) = false := decide_eq_false (by omega)
    have d2 : decide ((200 : Int) < (more.length : Int)) = false := decide_eq_false (by omega)
    have d3 : decide (200 < l.length) = false := decide_eq_false (by omega)
    have d4 : decide (200 < more.length) = false := decide_eq_false (by omega)
    clear hbig
    go_wp2_with (at_builtin; refine copy_vals (W := w2) rfl (.tmp 33) (.tmp 34) rfl rfl A c l rfl rfl (Kd.C_below HL.out HB2.out) (by omega) ?_; intro A1 c1 w3 ho hb; have HO := Aside0.mk ho; have HB3 := Aside0.mk hb; clear ho hb)
    refine (row_copy HQ2.out HB2.out.size HB3.out HO.out (by omega)).mono ?_
    rintro e w4 ⟨A0, c0, P2, rfl, hp', hq, hr, hb, hk⟩
    by_cases hE : rowE 4096 [] l = 0
    · have hgood := (rowE_good hE).1
      have hroom := (rowE_good hE).2
      have eN : rowNs 4096 [] l = l.map (num (addAll [] l)) := rowNs_zero hE
      have eV : rowVs 4096 [] l = addAll [] l := rowVs_zero hE
      rw [eN] at hr ⊢
      rw [hE]
      rw [eV] at hq
      have hin : ∀ x ∈ l, x ∈ addAll [] l := fun x hx => mem_addAll _ _ _ (.inl hx)
      obtain ⟨vs, hvs⟩ : ∃ vs, vs = addAll [] l := ⟨_, rfl⟩
      rw [← hvs] at hr hq hin hroom ⊢
      obtain ⟨ns, hns⟩ : ∃ ns, ns = l.map (num vs) := ⟨_, rfl⟩
      rw [← hns] at hr ⊢
      have hlen : ns.length = l.length := by rw [hns]; simp
      have HF := Aside0.mk (And.intro hgood (And.intro hin (And.intro hroom (And.intro hns hlen))))
      have HQ4 := Aside0.mk hq
      have HR4 := Aside0.mk (Kd.R_mono hr (fun k h => h.1))
      have HB4 := Aside0.mk (HB2.out.trans hb)
      clear hgood hroom eN eV hin hvs hns hlen hq hr hb hk hE HQ2 HB2 HO HB3 hp'
      go_wp2_with (at_builtin; refine copy_vals (W := w4) rfl (.tmp 45) (.tmp 46) rfl rfl A' c' more rfl rfl (Kd.C_below HL'.out HB4.out) (by omega) ?_; intro A1 c1 w5 ho hb; have HO := Aside0.mk ho; have HB5 := Aside0.mk hb; clear ho hb)
      refine (row_copy HQ4.out HB4.out.size HB5.out HO.out (by omega)).mono ?_
      rintro e w6 ⟨A2, c2, P3, rfl, hp', hq, _, hb, hk⟩
      have HR6 := Aside0.mk (R_beside HR4.out hk hp')
      have hr6 := hq.room
      have HB6 := Aside0.mk (HB4.out.trans hb)
      obtain ⟨t, ht⟩ := rowVs_pre 4096 vs more
      rw [ht] at hq hr6
      have HQ6 := Aside0.mk hq
      have HS6 := Aside0.mk hr6
      obtain ⟨er2, her2⟩ : ∃ er2, er2 = rowE 4096 vs more := ⟨_, rfl⟩
      rw [← her2]
      clear hq hb hk hp' ht her2 hr6 HQ4 HR4 HB4 HO HB5
      go_wp2_with (at_builtin; refine copy_vals (W := w6) rfl (.tmp 51) (.tmp 52) rfl rfl A c l rfl rfl (Kd.C_below HL.out HB6.out) (by omega) ?_; intro A1 c1 w7 ho hb; have HO := Aside0.mk ho; have HB7 := Aside0.mk hb; clear ho hb)
      refine (row_copy HQ6.out HB6.out.size HB7.out HO.out (by omega)).mono ?_
      rintro e w8 ⟨A3, c3, P4, rfl, hp', hq, hr, hb, hk⟩
      have hin2 : ∀ x ∈ l, x ∈ vs ++ t := fun x hx => by simp [HF.out.2.1 x hx]
      have hE : rowE 4096 (vs ++ t) l = 0 := rowE_in HF.out.1 hin2 HS6.out
      have eN : rowNs 4096 (vs ++ t) l = ns := by rw [rowNs_zero hE, addAll_in l _ hin2, nums_stay HF.out.2.1]; exact HF.out.2.2.2.1.symm
      have eV : rowVs 4096 (vs ++ t) l = vs ++ t := by rw [rowVs_zero hE, addAll_in l _ hin2]
      rw [hE, eN]
      rw [eN] at hr
      rw [eV] at hq
      have HR8 := Aside0.mk (R_beside HR6.out hk hp')
      have HRb := Aside0.mk (Kd.R_mono hr (fun k h => h.1))
      have HQ8 := Aside0.mk hq
      have HB8 := Aside0.mk (HB6.out.trans hb)
      have HF2 := Aside0.mk hin2
      clear hin2 hE eN eV hr hq hb hk hp' HR6 HQ6 HB6 HO HB7
      go_wp2_with fail
      have ens : ns = l.map (num (vs ++ t)) := by rw [nums_stay HF.out.2.1]; exact HF.out.2.2.2.1
      refine Calls.mono (by have := Values_any HQ8.out.v A0 c0 ns (Kd.R_reads' HR8.out).2.2 (Kd.R_reads' HR8.out).2.1 (by have := HF.out.2.2.2.2; omega); rw [show allIn (vs ++ t) ns = true by rw [ens]; exact allIn_nums HF2.out, show valsOf (vs ++ t) ns = l by rw [ens]; exact valsOf_nums HF2.out] at this; exact this) ?_
      rintro e w9 ⟨u0, rfl, ho, hb⟩
      obtain ⟨Au, cu, rfl⟩ := Kd.R_slice ho
      have HU := Aside0.mk ho
      have HR9 := Aside0.mk (Kd.R_below HR8.out hb)
      have HRb9 := Aside0.mk (Kd.R_below HRb.out hb)
      have HQ9 := Aside0.mk (HQ8.out.below hb)
      have HB9 := Aside0.mk (below_step HB8.out hb)
      have HENS := Aside0.mk ens
      clear ho hb ens HR8 HRb HQ8 HB8
      go_wp2_with fail
      refine (numbers_calls A0 c0 A3 c3 ns w9 (Kd.R_reads' HR9.out).2.2 (Kd.R_reads' HR9.out).2.1 (Kd.R_reads' HRb9.out).2.2 (Kd.R_reads' HRb9.out).2.1 (by have := HF.out.2.2.2.2; omega)).mono ?_
      rintro e wa ⟨rfl, ⟨na, rfl⟩⟩
      go_wp2_with fail
      refine (values_calls Au cu A c l _ (Kd.C_drewN (Kd.R_reads' HU.out).2.2 na) (Kd.R_reads' HU.out).2.1 (Kd.C_drewN (Kd.C_below HL.out HB9.out) na) HCC.out (by omega)).mono ?_
      rintro e wb ⟨rfl, ⟨nb, rfl⟩⟩
      go_wp2_with fail
      go_loopw [12, 13, 14, 15] (fun v12 v13 v14 v15 wr => ∃ i : Nat, i ≤ l.length ∧ v12 = .int .i64 i ∧ Aside0 (Below w9.heap.size w9 wr)) (fun v12 _ _ _ _ => l.length - (intOf v12).toNat)
      case atStart => exact ⟨0, by omega, by simp, ⟨pw_below_drewN (Below.refl _ _) _⟩⟩
      case round =>
        obtain ⟨i, hil, rfl, HW⟩ := hrel
        by_cases hlt : i < l.length
        · have hd : decide ((i : Int) < (l.length : Int)) = true := decide_eq_true (by omega)
          obtain ⟨ad, ea, hx0, hx1⟩ := at_T31 (Kd.C_below (Kd.C_below HL.out HB9.out) HW.out) (i : Int) (by omega) (by omega)
          obtain ⟨bd, eb, hn⟩ := Kd.at_int (Kd.C_below (Kd.R_reads' HR9.out).2.2 HW.out) (i : Int) (by omega) (by have := HF.out.2.2.2.2; omega)
          cases ea
          cases eb
          simp only [Int.toNat_natCast] at hx0 hx1 hn
          have HXX := Aside0.mk (And.intro hx0 (And.intro hx1 hn))
          clear hx0 hx1 hn
          go_wp2_with fail
          obtain ⟨wo, hwo⟩ : ∃ wo : World, wo = wr := ⟨_, rfl⟩
          rw [← hwo] at HW HXX ⊢
          clear hwo
          go_loopw [13] (fun v13 wr => ∃ k : Nat, k ≤ i ∧ v13 = .int .i64 k ∧ Aside0 (Below wo.heap.size wo wr)) (fun v13 _ => i - (intOf v13).toNat)
          case atStart => exact ⟨0, by omega, by simp, ⟨Below.refl _ _⟩⟩
          case round =>
            obtain ⟨k, hki, rfl, HV⟩ := hrel
            by_cases hlk : k < i
            · have hdk : decide ((k : Int) < (i : Int)) = true := decide_eq_true (by omega)
              have hCl := Kd.C_below (Kd.C_below (Kd.C_below HL.out HB9.out) HW.out) HV.out
              have hCn := Kd.C_below (Kd.C_below (Kd.R_reads' HR9.out).2.2 HW.out) HV.out
              obtain ⟨ad2, ea, y0, y1⟩ := at_T31 hCl (k : Int) (by omega) (by omega)
              obtain rfl : ad = ad2 := by injection ea
              obtain ⟨bd2, eb, yn⟩ := Kd.at_int hCn (k : Int) (by omega) (by have := HF.out.2.2.2.2; omega)
              obtain rfl : bd = bd2 := by injection eb
              have x0 := pw_cell_below HV.out HXX.out.1
              have x1 := pw_cell_below HV.out HXX.out.2.1
              have xn := pw_cell_below HV.out HXX.out.2.2
              simp only [Int.toNat_natCast] at y0 y1 yn
              have key : (rd ns (i : Int) == rd ns (k : Int)) = ((rd_T31 l (i : Int)).f0.toList == (rd_T31 l (k : Int)).f0.toList && ((rd_T31 l (i : Int)).f1 == (rd_T31 l (k : Int)).f1)) := by
                rw [HF.out.2.2.2.1, rd_map hlt, rd_map (show k < l.length by omega)]
                exact num_beq (HF.out.2.1 _ (rd_mem hlt)) (HF.out.2.1 _ (rd_mem (by omega)))
              generalize rd ns (i : Int) = ni at *
              generalize rd ns (k : Int) = nk at *
              generalize rd_T31 l (i : Int) = x at *
              generalize rd_T31 l (k : Int) = y at *
              clear hCl hCn ea eb
              have hlen := Nat.le_of_eq HF.out.2.2.2.2
              have hlen2 := Nat.le_of_eq HF.out.2.2.2.2.symm
              have hi1 : (i : Int) < (ns.length : Int) := by omega
              have hk1 : (k : Int) < (ns.length : Int) := by omega
              have hk2 : (k : Int) < (l.length : Int) := by omega
              clear hlen hlen2
              go_wp2_with fail
              go_region
              all_goals go_wp2
              go_roundw
              case measure => simp [intOf]; omega
              case rel => exact ⟨k + 1, by omega, by go_num, ⟨below_drew HV.out⟩⟩
            · have hdk : decide ((k : Int) < (i : Int)) = false := decide_eq_false (by omega)
              have hCl := Kd.C_below (Kd.C_below (Kd.C_below HL.out HB9.out) HW.out) HV.out
              have x0 := pw_cell_below HV.out HXX.out.1
              have x1 := pw_cell_below HV.out HXX.out.2.1
              have xn := pw_cell_below HV.out HXX.out.2.2
              have hi1 : (i : Int) < (ns.length : Int) := by have := HF.out.2.2.2.2; omega
              have hmem : rd_T31 l (i : Int) ∈ vs ++ t := HF2.out _ (rd_mem hlt)
              have hnum : rd ns (i : Int) = num (vs ++ t) (rd_T31 l (i : Int)) := by rw [HENS.out, rd_map hlt]
              generalize rd ns (i : Int) = ni at *
              generalize rd_T31 l (i : Int) = x at *
              have hr1 := (num_in hmem).1
              have hr2 := (num_in hmem).2.1
              rw [← hnum] at hr1 hr2
              have HN := Aside0.mk hnum
              have HM := Aside0.mk (idx_num hmem)
              have dn : decide (ni < 0) = false := decide_eq_false (by omega)
              have hr3 : ni < (vs.length : Int) + (t.length : Int) := by rw [List.length_append] at hr2; omega
              have dm : decide ((vs.length : Int) + (t.length : Int) ≤ ni) = false := decide_eq_false (by omega)
              have HD := Aside0.mk (And.intro dm hr3)
              clear hCl hnum hmem dm hr2 hr3
              go_wp2_with (first | (go_at_call 12; refine Calls.mono (by have := Find_any ((HQ9.out.below HW.out).below HV.out).v x; rw [HM.out] at this; exact this) ?_; rintro e wf ⟨rfl, hb⟩; have HVf := Aside0.mk (below_step HV.out hb); have xnf := pw_cell_below hb xn; have eni : ((idx (vs ++ t) x).map fun j => (j : Int)).getD 0 = ni := HN.out.symm; rw [eni]; clear hb x0 x1 xn eni) | (go_at_call 20; refine Calls.mono (Len_any ((HQ9.out.below HW.out).below HVf.out).v) ?_; rintro e wg ⟨rfl, ⟨ng, rfl⟩⟩; have dm := HD.out.1; have dq := HD.out.2))
              go_roundw
              case measure => simp [intOf]; omega
              case rel => exact ⟨i + 1, by omega, by go_num, ⟨below_step HW.out (pw_below_drewN HVf.out _)⟩⟩
        · have hd : decide ((i : Int) < (l.length : Int)) = false := decide_eq_false (by omega)
          go_wp2
          go_ret
          exact ⟨rfl, below_step HB9.out HW.out⟩
    · have hV : rowVs 4096 [] l = [] := by unfold rowVs; rw [if_neg hE]
      rw [hV] at hq
      obtain ⟨er, her⟩ : ∃ er, er = rowE 4096 [] l := ⟨_, rfl⟩
      rw [← her] at hE ⊢
      have hE2 : (er != 0) = true := by rw [bne_iff_ne]; exact hE
      obtain ⟨rl, hrl⟩ : ∃ rl, rl = (rowNs 4096 [] l).length := ⟨_, rfl⟩
      rw [← hrl]
      have HQ4 := Aside0.mk hq
      have HB4 := Aside0.mk (HB2.out.trans hb)
      clear hV hq hp' hr hb hk her hE hrl
      go_wp2_with (go_at_call 20; refine Calls.mono (Len_any HQ4.out.v) ?_; rintro e wg ⟨rfl, ⟨ng, rfl⟩⟩)
      go_ret
      exact ⟨rfl, pw_below_drewN HB4.out _⟩

end Go.Proofs.Ytjkicljcmognhaa.PInternPlays
