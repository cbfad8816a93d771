/- What InternFull answers: true. No condition beyond those each theorem names. -/
import Derived.Test.YtjkicljcmognhaaFullP
namespace Go.Proofs.Ytjkicljcmognhaa.PInternPlays
open Go.RowKit Go.Proofs.YtjkicljcmognhaaW.PrintWords Go.Proofs.YtjkicljcmognhaaW.PrintLast Go.Proofs.YtjkicljcmognhaaW.PrintMore
set_option linter.unusedVariables false
set_option linter.unusedSimpArgs false

/-- A Row of a literal's values that goes ill. -/
theorem row_ill {w : World} {base : Nat} {P : Nat → Prop} {pv : Value} {vs : List S31} (hp : PoolR w base P pv 4096 vs) (hbase : base ≤ w.heap.size) (l : List S31) (hl : l.length * 8 ≤ 140737488355328) {er : Int} (hE : rowE 4096 vs l = er) (h0 : er ≠ 0) {b n : Nat} (hb : w.heap.size = b) (hn : l.length = n) :
    Calls Try.prog 15 #[pv, .slice (some ⟨b, 0, none⟩) n n] (w.alloc (.cells (l.flatMap cells2).toArray 31)) fun e w' => ∃ v0 P', e = .returned (.tuple #[v0, .int .i64 er]) ∧ PoolR w' base P' pv 4096 vs ∧ Below base w w' := by
  subst hb
  subst hn
  refine (Row_any (w := w.alloc (.cells (l.flatMap cells2).toArray 31)) (hp.bound.below (below_alloc (Below.refl _ _) _)) (by simp; omega) _ l.length l (fun W hk => ?_) (Nat.le_refl _) hl).mono ?_
  · exact C_blk l (by omega) (blk_kept (blk_new w _) hk (fun h => by have := h.2.1; omega))
  · rintro e w' ⟨v0, P', h1, h2, h3, h4, h5, h6⟩
    rw [hE] at h1
    unfold rowVs at h3
    rw [hE, if_neg h0] at h3
    exact ⟨v0, P', h1, h3, ((below_alloc (Below.refl _ w) _).mono hbase).trans h5⟩
/-- A Put that goes ill. -/
theorem put_ill {w : World} {base : Nat} {P : Nat → Prop} {pv : Value} {vs : List S31} (hp : PoolR w base P pv 4096 vs) (hbase : base ≤ w.heap.size) (v : S31) {er : Int} (hE : rowE 4096 vs [v] = er) (h0 : er ≠ 0) :
    Calls Try.prog 10 #[pv, .agg #[.string v.f0, .int .i64 v.f1]] w fun e w' => ∃ P', e = .returned (.tuple #[.int .i64 0, .int .i64 er]) ∧ PoolR w' base P' pv 4096 vs ∧ Below base w w' := by
  refine (Put_any hp hbase v).mono ?_
  rintro e w' ⟨P', h1, h2, h3, h4, h5⟩
  refine ⟨P', ?_, ?_, h4⟩
  · rw [h1]; unfold putN; rw [hE, if_neg h0]
  · unfold rowVs at h3
    rw [hE, if_neg h0] at h3
    exact h3

theorem mod_in {n : Int} (h0 : 0 ≤ n) (h1 : n < 65536) : 0 ≤ (wrap64 n).tmod 4095 ∧ (wrap64 n).tmod 4095 < ((4095 : Nat) : Int) := by
  have e : wrap64 n = n := by unfold wrap64; omega
  rw [e, Int.tmod_eq_emod_of_nonneg h0]
  omega
set_option maxHeartbeats 1000000 in
set_option maxRecDepth 100000 in
theorem Full_calls (w : World) (n : Int) (h0 : 0 ≤ n) (h1 : n < 65536) :
    Calls Try.prog 6 #[.int .u16 n] w fun e w' => e = .returned (.bool true) ∧ Below w.heap.size w w' := by
  have HN := Aside0.mk (mod_in h0 h1)
  clear h0 h1
  go_enter Try.func6, Try.ntmps6
  go_wp2_with fail
  refine (New_at w).mono ?_
  rintro e w0 ⟨pb, P0, rfl, hp, hb⟩
  have HQ0 := Aside0.mk hp.bound
  have HB0 := Aside0.mk hb
  clear hp hb
  go_wp2_with fail
  refine (fixed_calls w0).mono ?_
  rintro e w1 ⟨rfl, hb⟩
  have HQ1 := Aside0.mk (HQ0.out.below hb).bound
  have HB1 := Aside0.mk (below_step HB0.out hb)
  clear hb HQ0 HB0
  go_wp2_with fail
  go_loopw [4, 5] (fun v3 v4 wr => ∃ (i : Nat) (xs : List S31), i ≤ 4095 ∧ v4 = .int .i64 i ∧ Aside0 (xs = upL i ∧ xs.length = i) ∧ Aside0 (Kd.R k31 31 wr w1.heap.size (fun k => w1.heap.size ≤ k) v3 xs) ∧ Aside0 (Below w1.heap.size w1 wr)) (fun v3 v4 _ => 4095 - (intOf v4).toNat)
  case atStart => exact ⟨0, [], by omega, rfl, ⟨rfl, rfl⟩, ⟨Kd.R_nil _ _ _ _ _⟩, ⟨Below.refl _ _⟩⟩
  case round =>
    obtain ⟨i, xs, hil, rfl, HX, HO, HB⟩ := hrel
    by_cases hlt : i < 4095
    · have hd : decide ((i : Int) < 4095) = true := decide_eq_true (by omega)
      obtain ⟨Ao, co, eo⟩ := Kd.R_slice HO.out
      subst eo
      go_wp2_with (at_builtin; refine Kd.R_append k31 (w0 := w1) w1.heap.size rfl (.tmp 27) (.tmp 30) 26 31 (.agg #[(.string ⟨#[]⟩), (.int .i64 0)]) 24 rfl Try.underlying26 info31 rfl (by decide) (by omega) (.slice Ao xs.length co) xs (nv i) [.string ⟨#[]⟩, .int .i64 i] (fun k => w1.heap.size ≤ k) (fun _ => False) rfl ?aX (k31_mkM _ _ _ (nv i)) (fun _ hk => hk.elim) ?aF ?aO ?aB ?aS ?aL ?_; (case aX => first | rfl | (simp [Act.eval]; done)); (case aO => exact HO.out); (case aB => exact HB.out); (case aS => exact HB.out.size); (case aF => exact (fun k hk => Nat.le_trans HB.out.size hk)); (case aL => have := HX.out.2; omega); intro v3 w3 ho hb hg hat; have HO3 := Aside0.mk ho; have HB3 := Aside0.mk hb; clear ho hb hg hat)
      go_roundw
      case measure => simp [intOf]; omega
      case rel => exact ⟨i + 1, xs ++ [nv i], by omega, by go_num, ⟨by rw [HX.out.1]; exact (upL_succ i).symm, by simp [HX.out.2]⟩, HO3, HB3⟩
    · have hd : decide ((i : Int) < 4095) = false := decide_eq_false (by omega)
      obtain ⟨L, M, hL, hF⟩ := full_any
      have hx : xs = L := by rw [hL, HX.out.1]; congr 1; omega
      subst hx
      have HF := Aside0.mk hF
      have HO2 := Aside0.mk HO.out
      clear hL hF HX
      obtain ⟨Ao, co, eo⟩ := Kd.R_slice HO2.out
      subst eo
      have HQ2 := Aside0.mk (HQ1.out.below HB.out)
      have HB2 := Aside0.mk (below_step HB1.out HB.out)
      clear HQ1
      go_wp2_with fail
      refine (Row_any HQ2.out HB2.out.size Ao co xs (fun W' hk => Kd.C_kept_own HO2.out (fun k h1 h2 => by have := h2.2.2; have := HB1.out.size; omega) W' hk) (Kd.R_reads' HO2.out).2.1 (by have := HF.out.2.1; omega)).mono ?_
      rintro e w3 ⟨v0, P3, rfl, _, hp, _, hb, _⟩
      rw [HF.out.2.2.2.1]
      rw [rowVs_zero HF.out.2.2.2.1, HF.out.1] at hp
      have HQ3 := Aside0.mk hp.bound
      have HB3 := Aside0.mk (HB2.out.trans hb)
      clear hp hb HQ2 HB2 HO2 HO HB
      go_wp2_with fail
      refine (row_ill HQ3.out HB3.out.size [vx, vy] (by simp) HF.out.2.2.2.2.1 (by omega) (b := w3.heap.size) (n := 2) rfl rfl).mono ?_
      rintro e w4 ⟨v1, P4, rfl, hp, hb⟩
      have HQ4 := Aside0.mk hp.bound
      have HB4 := Aside0.mk (HB3.out.trans hb)
      clear hp hb HQ3 HB3
      go_wp2_with fail
      refine Calls.mono (by have := Len_any HQ4.out.v; rw [HF.out.2.1] at this; exact this) ?_
      rintro e w5 ⟨rfl, ⟨nd, rfl⟩⟩
      have HQ5 := Aside0.mk (HQ4.out.below (pw_below_drewN (Below.refl _ w4) nd))
      have HB5 := Aside0.mk (pw_below_drewN HB4.out nd)
      clear HQ4 HB4
      go_wp2_with fail
      refine (put_at HQ5.out HB5.out.size vx HF.out.2.2.2.2.2.1 HF.out.2.2.2.2.2.2.1 HF.out.2.2.2.2.2.2.2.1).mono ?_
      rintro e w6 ⟨P6, rfl, hp, hb⟩
      have HQ6 := Aside0.mk hp.bound
      have HB6 := Aside0.mk (HB5.out.trans hb)
      clear hp hb HQ5 HB5
      go_wp2_with fail
      refine (put_ill HQ6.out HB6.out.size vy HF.out.2.2.2.2.2.2.2.2.1 (by omega)).mono ?_
      rintro e w7 ⟨P7, rfl, hp, hb⟩
      have HQ7 := Aside0.mk hp.bound
      have HB7 := Aside0.mk (HB6.out.trans hb)
      clear hp hb HQ6 HB6
      go_wp2_with fail
      have hm := HF.out.2.2.2.2.2.2.2.2.2 _ HN.out.1 HN.out.2
      refine (put_at HQ7.out HB7.out.size (nv ((wrap64 n).tmod 4095)) hm.1 hm.2.1 hm.2.2).mono ?_
      rintro e w8 ⟨P8, rfl, hp, hb⟩
      have HQ8 := Aside0.mk hp.bound
      have HB8 := Aside0.mk (HB7.out.trans hb)
      clear hp hb HQ7 HB7 hm
      go_wp2_with fail
      refine Calls.mono (by have := Len_any HQ8.out.v; rw [HF.out.2.2.1] at this; exact this) ?_
      rintro e w9 ⟨rfl, ⟨nd, rfl⟩⟩
      go_wp2_with fail
      go_ret
      exact ⟨rfl, pw_below_drewN HB8.out _⟩

end Go.Proofs.Ytjkicljcmognhaa.PInternPlays
