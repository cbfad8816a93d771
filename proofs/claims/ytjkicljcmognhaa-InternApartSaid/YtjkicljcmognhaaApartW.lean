/- What InternApart answers: true. No condition beyond those each theorem names. -/
import Derived.Test.YtjkicljcmognhaaPures
namespace Go.Proofs.Ytjkicljcmognhaa.PInternPlays
open Go.RowKit Go.Proofs.YtjkicljcmognhaaW.PrintWords Go.Proofs.YtjkicljcmognhaaW.PrintLast Go.Proofs.YtjkicljcmognhaaW.PrintMore
set_option linter.unusedVariables false
set_option linter.unusedSimpArgs false

theorem New_apart (w : World) : Calls Try.prog 8 #[] w fun e w' => ∃ pb, e = .returned (.pointer (some ⟨pb, 0, none⟩)) ∧ PoolR w' w.heap.size (fun k => w.heap.size ≤ k) (.pointer (some ⟨pb, 0, none⟩)) 4096 [] ∧ Below w.heap.size w w' :=
  (New_calls w).mono (by rintro e w' ⟨pb, h1, h2, h3⟩; exact ⟨pb, h1, .inr ⟨pb, rfl, rfl, h2⟩, h3⟩)

theorem row_all {l : List S31} : allIn (rowVs 4096 [] l) (rowNs 4096 [] l) = true ∧ valsOf (rowVs 4096 [] l) (rowNs 4096 [] l) = (if rowE 4096 [] l = 0 then l else []) ∧ (rowVs 4096 [] l).length ≤ l.length ∧ (rowNs 4096 [] l).length ≤ l.length := by
  by_cases h : rowE 4096 [] l = 0
  · rw [rowVs_zero h, rowNs_zero h, if_pos h]
    have hin : ∀ x ∈ l, x ∈ addAll [] l := fun x hx => mem_addAll _ _ _ (.inl hx)
    exact ⟨allIn_nums hin, valsOf_nums hin, by have := addAll_length_le l []; simpa using this, by simp⟩
  · unfold rowVs rowNs
    rw [if_neg h, if_neg h, if_neg h]
    exact ⟨rfl, rfl, by simp, by simp⟩

/-- A row's block, with its cells. -/
theorem row_blk {w : World} {b n c : Nat} {ok : Nat → Prop} {A : Option Addr} {xs : List S31} (h : Kd.R k31 31 w b ok (.slice A n c) xs) : n = 0 ∨ ∃ g cur, A = some ⟨g, 0, none⟩ ∧ w.heap[g]? = some (.cells cur 31 (0, 0)) ∧ cur.size = c * 2 ∧ n ≤ c ∧ ok g := by
  obtain ⟨hok, inner, ⟨_, ho⟩, _⟩ := h
  rcases ho with ⟨he, _⟩ | ⟨g, cap, cur, he, _, hh, hnc, _, hsz, _⟩
  · injection he with _ he
    exact .inl he
  · injection he with e1 e2 e3
    subst e1
    subst e2
    subst e3
    exact .inr ⟨g, cur, rfl, hh, hsz, hnc, hok g rfl⟩

set_option maxHeartbeats 1000000 in
set_option maxRecDepth 100000 in
theorem Apart_calls (w : World) (A : Option Addr) (c : Nat) (l : List S31) (hl : Kd.C k31 w A l.length l) (hc : l.length ≤ c) (hm : l.length ≤ 9223372036854775807) (A' : Option Addr) (c' : Nat) (more : List S31) (hl' : Kd.C k31 w A' more.length more) (hc' : more.length ≤ c') (hm' : more.length ≤ 9223372036854775807) :
    Calls Try.prog 7 #[.slice A l.length c, .slice A' more.length c'] w fun e w' => e = .returned (.bool true) ∧ Below w.heap.size w w' := by
  have HL := Aside0.mk hl
  have HL' := Aside0.mk hl'
  have HCC := Aside0.mk hc
  clear hl hl' hc hc'
  go_enter Try.func7, Try.ntmps7
  go_wp2_with fail
  refine (New_apart w).mono ?_
  rintro e w0 ⟨pb, rfl, hp, hb⟩
  have HQ0 := Aside0.mk hp.bound
  have HB0 := Aside0.mk hb
  clear hp hb
  go_wp2_with fail
  refine (New_apart w0).mono ?_
  rintro e w1 ⟨qb, rfl, hp, hb⟩
  have HQ1 := Aside0.mk (HQ0.out.below hb)
  have HS1 := Aside0.mk (show ∃ S, PoolR w1 w.heap.size S (.pointer (some ⟨qb, 0, none⟩)) 4096 [] ∧ ∀ k, S k → ¬ (w.heap.size ≤ k ∧ k < w0.heap.size ∧ w.heap.size ≤ k) from ⟨_, hp.lower HB0.out.size, fun k h1 h2 => by omega⟩)
  have HB1 := Aside0.mk (below_step HB0.out hb)
  clear hp hb HQ0 HB0
  go_wp2_with fail
  refine (fixed_calls w1).mono ?_
  rintro e w2 ⟨rfl, hb⟩
  have HQ2 := Aside0.mk (HQ1.out.below hb)
  obtain ⟨S2, hs2, hd2⟩ := HS1.out
  have HS2 := Aside0.mk (And.intro (hs2.below hb) hd2)
  have HB2 := Aside0.mk (below_step HB1.out hb)
  clear hb HQ1 HB1 HS1 hs2 hd2
  by_cases hbig : 200 < l.length ∨ 200 < more.length
  · by_cases h1 : 200 < l.length
    · have d1 : decide ((200 : Int) < (l.length : Int)) = true := decide_eq_true (by omega)
      have d3 : decide (200 < l.length) = true := decide_eq_true (by omega)
      clear hbig
      go_wp2
      go_ret
      exact ⟨rfl, HB2.out⟩
    · have d1 : decide ((200 : Int) < (l.length : Int)) = false := decide_eq_false (by omega)
      have d3 : decide (200 < l.length) = false := decide_eq_false (by omega)
      have d2 : decide ((200 : Int) < (more.length : Int)) = true := decide_eq_true (by omega)
      have d4 : decide (200 < more.length) = true := decide_eq_true (by omega)
      clear hbig
      go_wp2
      go_ret
      exact ⟨rfl, HB2.out⟩
  · have h1 : l.length ≤ 200 := by omega
    have h2 : more.length ≤ 200 := by omega
    have d1 : decide ((200 : Int) < (l.length : Int)) = false := decide_eq_false (by omega)
    have d2 : decide ((200 : Int) < (more.length : Int)) = false := decide_eq_false (by omega)
    have d3 : decide (200 < l.length) = false := decide_eq_false (by omega)
    have d4 : decide (200 < more.length) = false := decide_eq_false (by omega)
    clear hbig
    go_wp2_with (at_builtin; refine copy_vals (W := w2) rfl (.tmp 36) (.tmp 37) rfl rfl A c l rfl rfl (Kd.C_below HL.out HB2.out) (by omega) ?_; intro A1 c1 w3 ho hb; have HO := Aside0.mk ho; have HB3 := Aside0.mk hb; clear ho hb)
    refine (row_copy HQ2.out HB2.out.size HB3.out HO.out (by omega)).mono ?_
    rintro e w4 ⟨A0, c0, P2, rfl, hp', hq, hr, hb, hk⟩
    have HF := Aside0.mk (row_all (l := l))
    obtain ⟨S4, hs4, hd4, hb4⟩ := Pool_beside HS2.out.1 HS2.out.2 hk hp'
    obtain ⟨vs, hvs⟩ : ∃ vs, vs = rowVs 4096 [] l := ⟨_, rfl⟩
    obtain ⟨ns, hns⟩ : ∃ ns, ns = rowNs 4096 [] l := ⟨_, rfl⟩
    obtain ⟨er, her⟩ : ∃ er, er = rowE 4096 [] l := ⟨_, rfl⟩
    rw [← hvs, ← hns, ← her] at HF
    rw [← hns] at hr ⊢
    rw [← hvs] at hq
    rw [← her]
    have HQ4 := Aside0.mk hq
    have HR4 := Aside0.mk (show Kd.R (Kd.int .i64) 3 w4 w.heap.size (fun k => ¬ P2 k ∧ ¬ S4 k) _ ns from Kd.R_mono hr (fun k h => ⟨h.1, fun h' => by have := (hb4 k h').2; omega⟩))
    have HS4 := Aside0.mk (And.intro hs4 hd4)
    have HB4 := Aside0.mk (HB2.out.trans hb)
    clear hvs hns her hq hr hs4 hd4 hb4 hb hk hp' HQ2 HB2 HS2 HO HB3
    go_wp2_with (at_builtin; refine copy_vals (W := w4) rfl (.tmp 43) (.tmp 44) rfl rfl A' c' more rfl rfl (Kd.C_below HL'.out HB4.out) (by omega) ?_; intro A1 c1 w5 ho hb; have HO := Aside0.mk ho; have HB5 := Aside0.mk hb; clear ho hb)
    refine (row_copy HS4.out.1 HB4.out.size HB5.out HO.out (by omega)).mono ?_
    rintro e w6 ⟨A2, c2, S6, rfl, hp', hq, _, hb, hk⟩
    obtain ⟨P6, hq6, hd6, hb6⟩ := Pool_beside HQ4.out (fun k h h' => HS4.out.2 k h' h) hk hp'
    have HQ6 := Aside0.mk hq6
    have HS6 := Aside0.mk (And.intro hq (fun k h h' => hd6 k h' h : ∀ k, S6 k → ¬ P6 k))
    have HR6 := Aside0.mk (R_beside2 HR4.out hk hp' (P' := P6) (fun k h => .inl (hb6 k h).1))
    have HB6 := Aside0.mk (HB4.out.trans hb)
    obtain ⟨e2, he2⟩ : ∃ e2, e2 = rowE 4096 [] more := ⟨_, rfl⟩
    obtain ⟨n2, hn2⟩ : ∃ n2, n2 = (rowNs 4096 [] more).length := ⟨_, rfl⟩
    rw [← he2, ← hn2]
    have HB6s := Aside0.mk HB6.out.size
    clear hq hq6 hd6 hb6 hb hk hp' he2 hn2 HQ4 HR4 HS4 HB4 HO HB5
    go_wp2_with fail
    refine Calls.mono (by have := Values_any HQ6.out.v A0 c0 ns (Kd.R_reads' HR6.out).2.2 (Kd.R_reads' HR6.out).2.1 (by have := HF.out.2.2.2; omega); rw [HF.out.1] at this; exact this) ?_
    rintro e w7 ⟨u0, rfl, ho, hb⟩
    obtain ⟨us, hus⟩ : ∃ us, us = valsOf vs ns := ⟨_, rfl⟩
    rw [← hus] at ho
    have HUS := Aside0.mk hus
    obtain ⟨Au, cu, rfl⟩ := Kd.R_slice ho
    have HU7 := Aside0.mk ho
    have HQ7 := Aside0.mk (HQ6.out.bound.below hb)
    have HS7 := Aside0.mk (And.intro (HS6.out.1.bound.below hb) HS6.out.2)
    have HR7 := Aside0.mk (Kd.R_below (Kd.R_bound HR6.out) hb)
    have HB7 := Aside0.mk (below_step HB6.out hb)
    have HV7 := Aside0.mk hb.size
    clear ho hb hus HQ6 HS6 HR6 HB6
    go_wp2_with fail
    have hus : us.length ≤ 200 := by
      rw [HUS.out, HF.out.2.1]
      split
      · exact h1
      · simp
    go_loopw [11] (fun v11 wr => ∃ i : Nat, i ≤ us.length ∧ v11 = .int .i64 i ∧ Aside0 (Kept w7 wr (fun k => w6.heap.size ≤ k) ∧ Below w.heap.size w wr) ∧ Aside0 (us.length = 0 ∨ ∃ g cur, Au = some ⟨g, 0, none⟩ ∧ wr.heap[g]? = some (.cells cur 31 (0, 0)) ∧ cur.size = cu * 2 ∧ us.length ≤ cu ∧ w6.heap.size ≤ g)) (fun v11 _ => us.length - (intOf v11).toNat)
    case atStart => exact ⟨0, by omega, by simp, ⟨Kept.refl _ _, HB7.out⟩, ⟨row_blk HU7.out⟩⟩
    case round =>
      obtain ⟨i, hil, rfl, HK, HG⟩ := hrel
      by_cases hlt : i < us.length
      · have hd : decide ((i : Int) < (us.length : Int)) = true := decide_eq_true (by omega)
        rcases HG.out with h0 | ⟨g, cur, ea, hg, hsz, hcu, hg6⟩
        · exfalso; omega
        · cases ea
          obtain ⟨z0, c0⟩ : ∃ z0, wr.cell? ⟨g, i * 2, none⟩ = some z0 := ⟨cur[i * 2]'(by omega), by rw [blk_cell hg]; simp⟩
          have f0 : wr.frozen? ⟨g, i * 2, none⟩ = false := blk_frozen hg _
          obtain ⟨z1, c1⟩ : ∃ z1, wr.cell? ⟨g, i * 2 + 1, none⟩ = some z1 := ⟨cur[i * 2 + 1]'(by omega), by rw [blk_cell hg]; simp⟩
          have f1 : wr.frozen? ⟨g, i * 2 + 1, none⟩ = false := blk_frozen hg _
          have HG2 := Aside0.mk (And.intro hg (And.intro hsz (And.intro hcu hg6)))
          clear hg hsz hcu hg6
          go_wp2
          go_roundw
          case measure => simp [intOf]; omega
          case rel =>
            obtain ⟨hg, hsz, hcu, hg6⟩ := HG2.out
            have hge : w.heap.size ≤ g := Nat.le_trans HB6s.out hg6
            refine ⟨i + 1, by omega, by go_num, ⟨(HK.out.1.setCell (p := ⟨g, i * 2, none⟩) (.inl hg6) _).setCell (p := ⟨g, i * 2 + 1, none⟩) (.inl hg6) _, (HK.out.2.setCell (p := ⟨g, i * 2, none⟩) hge _).setCell (p := ⟨g, i * 2 + 1, none⟩) hge _⟩, ⟨.inr ⟨g, _, rfl, blk_set (blk_set hg _ _) _ _, by simpa using hsz, hcu, hg6⟩⟩⟩
      · have hd : decide ((i : Int) < (us.length : Int)) = false := decide_eq_false (by omega)
        have HR8 := Aside0.mk (Kd.R_kept HR7.out HK.out.1 (fun k h h' => by have := h.2.2.1; omega))
        have HQ8 := Aside0.mk (HQ7.out.step (fun k h1 h2 => HK.out.1.2 k h2 (by have := h1.2.1; omega)))
        have HS8 := Aside0.mk (And.intro (HS7.out.1.step (fun k h1 h2 => HK.out.1.2 k h2 (by have := h1.2.1; omega))) HS7.out.2)
        have HB8 := Aside0.mk HK.out.2
        clear HQ7 HS7 HR7 HB7 HG HK
        go_wp2_with fail
        refine Calls.mono (by have := Values_any HQ8.out.v A0 c0 ns (Kd.R_reads' HR8.out).2.2 (Kd.R_reads' HR8.out).2.1 (by have := HF.out.2.2.2; omega); rw [HF.out.1, ← HUS.out] at this; exact this) ?_
        rintro e w9 ⟨u1, rfl, ho, hb⟩
        obtain ⟨Aw, cw, rfl⟩ := Kd.R_slice ho
        have HU9 := Aside0.mk (Kd.R_bound ho)
        have HQ9 := Aside0.mk (HQ8.out.bound.below hb)
        have HS9 := Aside0.mk (And.intro (HS8.out.1.bound.below hb) HS8.out.2)
        have HB9 := Aside0.mk (below_step HB8.out hb)
        have HV9 := Aside0.mk hb.size
        clear ho hb HQ8 HS8 HR8 HB8
        go_wp2_with fail
        refine (Clear_any HS9.out.1 HB9.out.size).mono ?_
        rintro e wa ⟨rfl, _, hk, hb⟩
        have HUa := Aside0.mk (Kd.R_kept HU9.out hk (fun k h h' => by have := h'.2.1; have := h.1; omega))
        have HQa := Aside0.mk (HQ9.out.step (fun k h1 h2 => hk.2 k h2 (fun h' => HS9.out.2 k h'.1.1 h1.1.1)))
        have HBa := Aside0.mk (HB9.out.trans hb)
        clear hk hb HQ9 HS9 HB9 HU9
        by_cases he : er = 0
        · have hu : us = l := by rw [HUS.out, HF.out.2.1, if_pos he]
          subst hu
          subst he
          have hvl := HF.out.2.2.1
          have hd2 : decide ((vs.length : Int) ≤ (us.length : Int)) = true := decide_eq_true (by omega)
          have hd3 : decide (vs.length ≤ us.length) = true := decide_eq_true (by omega)
          have HCL := Aside0.mk (Kd.C_below HL.out HBa.out)
          clear hvl
          go_wp2_with (first | (go_at_call 18; refine (values_calls Aw cw A c us _ (Kd.R_reads' HUa.out).2.2 (Kd.R_reads' HUa.out).2.1 HCL.out HCC.out (by omega)).mono ?_; rintro e wb ⟨rfl, ⟨nb, rfl⟩⟩) | (go_at_call 20; refine Calls.mono (Len_any (HQa.out.below (pw_below_drewN (Below.refl _ _) _)).v) ?_; rintro e wc ⟨rfl, ⟨nc, rfl⟩⟩))
          go_ret
          exact ⟨rfl, pw_below_drewN HBa.out _⟩
        · have he2 : (er != 0) = true := by rw [bne_iff_ne]; exact he
          go_wp2
          go_ret
          exact ⟨rfl, HBa.out⟩

end Go.Proofs.Ytjkicljcmognhaa.PInternPlays
