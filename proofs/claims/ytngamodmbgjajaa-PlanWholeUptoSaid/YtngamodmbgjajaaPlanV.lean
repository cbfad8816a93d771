/- What plan.goOn answers: planP. No condition beyond those each theorem names. -/
import Derived.Test.YtngamodmbgjajaaPlanU
import Derived.WalkMore
namespace Go.Proofs.Ytngamodmbgjajaa.PPlanOrders
open Go.RowKit Go.Proofs.YtngamodmbgjajaaW.PrintWords Go.Proofs.YtngamodmbgjajaaW.PrintLast Go.Proofs.YtngamodmbgjajaaW.PrintMore
set_option linter.unusedVariables false
set_option linter.unusedSimpArgs false

/-- The rule, boxed. -/
def RuleAt (w : World) (g : Nat) (a : Int) (b : ByteArray) (A2 : Option Addr) (n2 c2 : Nat) (A3 : Option Addr) (n3 c3 : Nat) : Prop := w.heap[g]? = some (.cells #[.int .u8 a, .string b, .slice A2 n2 c2, .slice A3 n3 c3] 27 (0, 0))
theorem RuleAt.cells {w : World} {g : Nat} {a : Int} {b : ByteArray} {A2 : Option Addr} {n2 c2 : Nat} {A3 : Option Addr} {n3 c3 : Nat} (h : RuleAt w g a b A2 n2 c2 A3 n3 c3) :
    w.cell? ⟨g, 0, none⟩ = some (.int .u8 a) ∧ w.cell? ⟨g, 1, none⟩ = some (.string b) ∧ w.cell? ⟨g, 2, none⟩ = some (.slice A2 n2 c2) ∧ w.cell? ⟨g, 3, none⟩ = some (.slice A3 n3 c3) := ⟨blk_cell h 0, blk_cell h 1, blk_cell h 2, blk_cell h 3⟩
theorem RuleAt.below {w w' : World} {g : Nat} {a : Int} {b : ByteArray} {A2 : Option Addr} {n2 c2 : Nat} {A3 : Option Addr} {n3 c3 : Nat} (h : RuleAt w g a b A2 n2 c2 A3 n3 c3) (hb : Below w.heap.size w w') : RuleAt w' g a b A2 n2 c2 A3 n3 c3 := blk_below h hb

/-- What the outer loop holds: the plan so far and the bound names, each in its own memory, beside the two boxes. -/
def Both (w0 wr : World) (gr gh : Nat) (ov hv : Value) (out : List Int) (have_ : List ByteArray) : Prop :=
  ∃ Po Ph : Nat → Prop, Kd.R (Kd.int .i64) 3 wr w0.heap.size Po ov out ∧ Kd.R Kd.string 9 wr w0.heap.size Ph hv have_ ∧ (∀ k, Po k → ¬ Ph k ∧ k ≠ gr ∧ k ≠ gh ∧ k < wr.heap.size) ∧ (∀ k, Ph k → k ≠ gr ∧ k ≠ gh ∧ k < wr.heap.size) ∧ wr.heap[gh]? = some (.cells #[hv] 38 (0, 0)) ∧ Below w0.heap.size w0 wr
theorem Both.below {w0 wr wd : World} {gr gh : Nat} {ov hv : Value} {out : List Int} {have_ : List ByteArray} (h : Both w0 wr gr gh ov hv out have_) (hb : Below wr.heap.size wr wd) : Both w0 wd gr gh ov hv out have_ := by
  obtain ⟨Po, Ph, h1, h2, h3, h4, h5, h6⟩ := h
  exact ⟨Po, Ph, Kd.R_below h1 hb, Kd.R_below h2 hb, fun k hk => ⟨(h3 k hk).1, (h3 k hk).2.1, (h3 k hk).2.2.1, Nat.lt_of_lt_of_le (h3 k hk).2.2.2 hb.size⟩, fun k hk => ⟨(h4 k hk).1, (h4 k hk).2.1, Nat.lt_of_lt_of_le (h4 k hk).2.2 hb.size⟩, blk_below h5 hb, below_step h6 hb⟩
theorem Both.facts {w0 wr : World} {gr gh : Nat} {ov : Value} {Ah : Option Addr} {ch : Nat} {out : List Int} {have_ : List ByteArray} (h : Both w0 wr gr gh ov (.slice Ah have_.length ch) out have_) : wr.heap[gh]? = some (.cells #[.slice Ah have_.length ch] 38 (0, 0)) ∧ Kd.C Kd.string wr Ah have_.length have_ ∧ have_.length ≤ ch ∧ Below w0.heap.size w0 wr := by
  obtain ⟨Po, Ph, h1, h2, h3, h4, h5, h6⟩ := h
  exact ⟨h5, (Kd.R_reads' h2).2.2, (Kd.R_reads' h2).2.1, h6⟩
theorem Both.appended {w0 wr w1 : World} {gr gh : Nat} {ov hv v1 : Value} {out : List Int} {have_ : List ByteArray} {x : Int} {Po Ph : Nat → Prop} (h1 : Kd.R (Kd.int .i64) 3 wr w0.heap.size Po ov out) (h2 : Kd.R Kd.string 9 wr w0.heap.size Ph hv have_) (h3 : ∀ k, Po k → ¬ Ph k ∧ k ≠ gr ∧ k ≠ gh ∧ k < wr.heap.size) (h4 : ∀ k, Ph k → k ≠ gr ∧ k ≠ gh ∧ k < wr.heap.size) (h5 : wr.heap[gh]? = some (.cells #[hv] 38 (0, 0))) (hgr : gr < wr.heap.size)
    (ho : Kd.R (Kd.int .i64) 3 w1 w0.heap.size (fun k => Po k ∨ wr.heap.size ≤ k) v1 (out ++ [x])) (hb : Below w0.heap.size w0 w1) (hg : wr.grownBy w1 ov.ownBlock) : Both w0 w1 gr gh v1 hv (out ++ [x]) have_ := by
  have hgh := blk_lt h5
  have hsz : wr.heap.size ≤ w1.heap.size := hg.size
  refine ⟨fun k => (Po k ∨ wr.heap.size ≤ k) ∧ k < w1.heap.size, Ph, Kd.R_mono (Kd.R_bound ho) (fun k hk => ⟨hk.1, hk.2.2.1⟩), Kd.R_grown h2 hg (fun k hk he => (h3 k (h1.1 k he.symm)).1 hk), fun k hk => ⟨fun hp => ?_, ?_, ?_, hk.2⟩, fun k hk => ⟨(h4 k hk).1, (h4 k hk).2.1, Nat.lt_of_lt_of_le (h4 k hk).2.2 hsz⟩, blk_grown h5 hg (fun he => (h3 gh (h1.1 gh he.symm)).2.2.1 rfl), hb⟩
  · rcases hk.1 with hq | hq
    · exact (h3 k hq).1 hp
    · have := (h4 k hp).2.2; omega
  · rcases hk.1 with hq | hq
    · exact (h3 k hq).2.1
    · omega
  · rcases hk.1 with hq | hq
    · exact (h3 k hq).2.2.1
    · omega
theorem RuleAt.appended {w0 wr w1 : World} {g : Nat} {a : Int} {b : ByteArray} {A2 : Option Addr} {n2 c2 : Nat} {A3 : Option Addr} {n3 c3 : Nat} {ov : Value} {out : List Int} {Po : Nat → Prop} (h : RuleAt wr g a b A2 n2 c2 A3 n3 c3) (h1 : Kd.R (Kd.int .i64) 3 wr w0.heap.size Po ov out) (h3 : ∀ k, Po k → k ≠ g) (hg : wr.grownBy w1 ov.ownBlock) : RuleAt w1 g a b A2 n2 c2 A3 n3 c3 := blk_grown h hg (fun he => h3 g (h1.1 g he.symm) rfl)
theorem Both.stored {w0 w9 w10 w11 : World} {gr gh : Nat} {ov hv v : Value} {out : List Int} {have2 : List ByteArray} {Po Ph : Nat → Prop} (q1 : Kd.R (Kd.int .i64) 3 w9 w0.heap.size Po ov out) (q3 : ∀ k, Po k → ¬ Ph k ∧ k ≠ gr ∧ k ≠ gh ∧ k < w9.heap.size) (q4 : ∀ k, Ph k → k ≠ gr ∧ k ≠ gh ∧ k < w9.heap.size) (q5 : w9.heap[gh]? = some (.cells #[hv] 38 (0, 0))) (hgr : gr < w9.heap.size) (hb10 : Below w9.heap.size w9 w10)
    (ho : Kd.R Kd.string 9 w11 w0.heap.size (fun k => Ph k ∨ w10.heap.size ≤ k) v have2) (hb : Below w0.heap.size w0 w11) (hk : Kept w10 w11 Ph) (hge : w0.heap.size ≤ gh) : Both w0 (w11.setCell ⟨gh, 0, none⟩ v) gr gh ov v out have2 := by
  have hgh := blk_lt q5
  have h10 := hb10.size
  have h11 := hk.1
  have hbk : w11.heap[gh]? = some (.cells #[hv] 38 (0, 0)) := blk_kept (blk_below q5 hb10) hk (fun hp => (q4 _ hp).2.1 rfl)
  have hsz : (w11.setCell ⟨gh, 0, none⟩ v).heap.size = w11.heap.size := by simp
  refine ⟨Po, fun k => (Ph k ∨ w10.heap.size ≤ k) ∧ k < w11.heap.size, Kd.R_far (Kd.R_kept (Kd.R_below q1 hb10) hk (fun k hk => (q3 k hk).1)) (fun k hk => (q3 k hk).2.2.1) v, Kd.R_far (Kd.R_mono (Kd.R_bound ho) (fun k hk => ⟨hk.1, hk.2.2.1⟩)) (fun k hk he => ?_) v, fun k hk => ⟨fun hp => ?_, (q3 k hk).2.1, (q3 k hk).2.2.1, ?_⟩, fun k hk => ⟨fun he => ?_, fun he => ?_, ?_⟩, blk_put hbk 0 v rfl, below_set hb hge⟩
  · have he' : k = gh := he
    rcases hk.1 with h | h
    · exact (q4 k h).2.1 he'
    · omega
  · rcases hp.1 with h | h
    · exact (q3 k hk).1 h
    · have := (q3 k hk).2.2.2; omega
  · have := (q3 k hk).2.2.2; omega
  · rcases hk.1 with h | h
    · exact (q4 k h).1 he
    · omega
  · rcases hk.1 with h | h
    · exact (q4 k h).2.1 he
    · omega
  · have := hk.2; omega
theorem goesP_true {body : List S24} {out : List Int} {have_ : List ByteArray} {i : Int} (hlt : out.length < body.length) (hs : scan body have_ out body.length 0 (-1) (-1) = (true, i)) : goesP body (body.length - out.length) out have_ = goesP body (body.length - (out ++ [i]).length) (out ++ [i]) have_ := by
  obtain ⟨d, hd⟩ : ∃ d, d = body.length - (out ++ [i]).length := ⟨_, rfl⟩
  have h2 : body.length - out.length = d + 1 := by rw [hd, List.length_append, List.length_singleton]; omega
  rw [h2, ← hd, goesP, hs]
  rfl
theorem goesP_none {body : List S24} {out : List Int} {have_ : List ByteArray} {i : Int} (hlt : out.length < body.length) (hs : scan body have_ out body.length 0 (-1) (-1) = (false, i)) (hi : i < 0) : goesP body (body.length - out.length) out have_ = ([], false) := by
  obtain ⟨d, hd⟩ : ∃ d, body.length - out.length = d + 1 := ⟨body.length - out.length - 1, by omega⟩
  rw [hd, goesP, hs, if_neg (by simp), if_pos hi]
theorem goesP_best {body : List S24} {out : List Int} {have_ : List ByteArray} {i : Int} (hlt : out.length < body.length) (hs : scan body have_ out body.length 0 (-1) (-1) = (false, i)) (hi : ¬ i < 0) : goesP body (body.length - out.length) out have_ = goesP body (body.length - (out ++ [i]).length) (out ++ [i]) (putsS have_ (varsP (rd_T24 body i).f2)) := by
  obtain ⟨d, hd⟩ : ∃ d, d = body.length - (out ++ [i]).length := ⟨_, rfl⟩
  have h2 : body.length - out.length = d + 1 := by rw [hd, List.length_append, List.length_singleton]; omega
  rw [h2, ← hd, goesP, hs, if_neg (by simp), if_neg hi]
/-- A slice's length. -/
def sliceLen : Value → Nat
  | .slice _ n _ => n
  | _ => 0

set_option maxHeartbeats 4000000 in
set_option maxRecDepth 100000 in
theorem goOn_calls (w0 w : World) (hB : Below w0.heap.size w0 w) (a : Int) (b : ByteArray) (A2 : Option Addr) (c2 : Nat) (hd_ : List S50) (h2 : Kd.C k50 w0 A2 hd_.length hd_) (hc2 : hd_.length ≤ c2) (A3 : Option Addr) (c3 : Nat) (body : List S24) (h3 : Kd.C k24 w0 A3 body.length body) (hc3 : body.length ≤ c3) (hb : Small body)
    (v : Value) (out : List Int) (Po : Nat → Prop) (ho : Kd.R (Kd.int .i64) 3 w w0.heap.size Po v out) (hpo : ∀ k, Po k → k < w.heap.size) (hol : out.length ≤ 2) :
    Calls Try.prog 20 #[.agg #[.int .u8 a, .string b, .slice A2 hd_.length c2, .slice A3 body.length c3], v] w fun e w' => ∃ v1, e = .returned (.tuple #[v1, .bool (planP body out).2]) ∧ Kd.R (Kd.int .i64) 3 w' w0.heap.size (fun _ => True) v1 (planP body out).1 ∧ Below w0.heap.size w0 w' := by
  have H2 := Aside0.mk (And.intro h2 hc2)
  have H3 := Aside0.mk (And.intro h3 hc3)
  have HS := Aside0.mk hb
  have HL := Aside0.mk hb.1
  have HO := Aside0.mk (Kd.R_alloc ho (.cells #[.int .u8 a, .string b, .slice A2 hd_.length c2, .slice A3 body.length c3] 27))
  have HPO := Aside0.mk hpo
  have HOL := Aside0.mk hol
  have HX0 := Aside0.mk (show RuleAt (w.alloc (.cells #[.int .u8 a, .string b, .slice A2 hd_.length c2, .slice A3 body.length c3] 27)) w.heap.size a b A2 hd_.length c2 A3 body.length c3 from blk_new w _)
  have HB0 := Aside0.mk (below_alloc hB (.cells #[.int .u8 a, .string b, .slice A2 hd_.length c2, .slice A3 body.length c3] 27))
  have HW := Aside0.mk hB
  obtain ⟨Ao, co, ev⟩ := Kd.R_slice ho
  subst ev
  clear h2 hc2 h3 hc3 hb ho hpo hol hB
  go_enter Try.func20, Try.ntmps20
  obtain ⟨x0, x1, x2, x3⟩ := HX0.out.cells
  go_wp2_with fail
  go_step3
  go_wp2_with fail
  go_loopw [20] (fun v20 wr => ∃ i : Nat, i ≤ body.length ∧ v20 = .int .i64 i ∧ Aside0 (kindsOk (body.take i) = true) ∧ Aside0 (Below (w.alloc (.cells #[.int .u8 a, .string b, .slice A2 hd_.length c2, .slice A3 body.length c3] 27)).heap.size (w.alloc (.cells #[.int .u8 a, .string b, .slice A2 hd_.length c2, .slice A3 body.length c3] 27)) wr)) (fun v20 _ => body.length - (intOf v20).toNat)
  case atStart => exact ⟨0, by omega, rfl, ⟨rfl⟩, ⟨Below.refl _ _⟩⟩
  case round =>
    clear x0 x1 x2 x3
    obtain ⟨i, hil, rfl, HK, HQ⟩ := hrel
    obtain ⟨x0, x1, x2, x3⟩ := (HX0.out.below HQ.out).cells
    have hlen := HL.out
    by_cases hlt : i < body.length
    · have hd : decide ((i : Int) < (body.length : Int)) = true := decide_eq_true (by omega)
      have HBQ := Aside0.mk (below_step HB0.out HQ.out)
      obtain ⟨ad, Ax, cx, ea, hx0, hx1, hx2, hlx, hCx⟩ := at_T24 (Kd.C_below H3.out.1 HBQ.out) (i : Int) (by omega) (by omega)
      cases ea
      simp only [Int.toNat_natCast] at hx0 hx1 hx2
      obtain ⟨x, hx⟩ : ∃ x, x = rd_T24 body (i : Int) := ⟨_, rfl⟩
      rw [← hx] at hx0 hx1 hx2 hlx hCx
      have hkt := kinds_take hlt
      rw [← hx] at hkt
      have HKT := Aside0.mk hkt
      have hbad : ¬ (1 ≤ x.f0 ∧ x.f0 ≤ 4) → kindsOk body = false := fun h => by
        unfold kindsOk
        rw [List.all_eq_false]
        exact ⟨x, by rw [hx]; simp [rd_T24, hlt], by simpa using h⟩
      have HBAD := Aside0.mk hbad
      clear hx hkt hbad hlx hCx
      by_cases h1 : x.f0 < 1
      · have e1 : decide (x.f0 < 1) = true := decide_eq_true h1
        have hpl : planP body out = ([], false) := by unfold planP; rw [HBAD.out (by omega)]; rfl
        have HPL := Aside0.mk hpl
        clear hpl
        go_wp2
        (try rw [Exit.noGoto_ret])
        go_ret2
        exact ⟨_, by rw [HPL.out]; rfl, by rw [HPL.out]; exact Kd.R_nil _ _ _ _ _, below_alloc HBQ.out _⟩
      · have e1 : decide (x.f0 < 1) = false := decide_eq_false h1
        by_cases h4 : 4 < x.f0
        · have e4 : decide (4 < x.f0) = true := decide_eq_true h4
          have hpl : planP body out = ([], false) := by unfold planP; rw [HBAD.out (by omega)]; rfl
          have HPL := Aside0.mk hpl
          clear hpl
          go_wp2
          (try rw [Exit.noGoto_ret])
          go_ret2
          exact ⟨_, by rw [HPL.out]; rfl, by rw [HPL.out]; exact Kd.R_nil _ _ _ _ _, below_alloc HBQ.out _⟩
        · have e4 : decide (4 < x.f0) = false := decide_eq_false h4
          go_wp2
          go_roundw
          case measure => simp [intOf]; omega
          case rel => exact ⟨i + 1, by omega, by go_num, ⟨by rw [HKT.out, HK.out, decide_eq_true ⟨by omega, by omega⟩]; rfl⟩, ⟨below_alloc HQ.out _⟩⟩
    · have hd : decide ((i : Int) < (body.length : Int)) = false := decide_eq_false (by omega)
      have etk : body.take i = body := List.take_of_length_le (by omega)
      rw [etk] at HK
      clear etk
      have HPL := Aside0.mk (show planP body out = goesP body (body.length - out.length) out (boundP body out) by unfold planP; rw [HK.out]; rfl)
      obtain ⟨wa, hwa⟩ : ∃ wa, wa = wr := ⟨_, rfl⟩
      subst hwa
      have HBa := Aside0.mk (below_step HB0.out HQ.out)
      have HXa := Aside0.mk (HX0.out.below HQ.out)
      have HOa := Aside0.mk (Kd.R_below HO.out HQ.out)
      have HBF := Aside0.mk (bound_f HS.out a b hd_ out (by have := HOL.out; omega) (k := 200000000) (Nat.le_refl _))
      go_wp2_with fail
      refine Calls.mono (plan_Bound.calls 200000000 a b A2 c2 hd_ A3 c3 body Ao co out _ wa (Kd.C_below H2.out.1 HBa.out) H2.out.2 (Kd.C_below H3.out.1 HBa.out) H3.out.2 (Kd.R_reads' HOa.out).2.2 (Kd.R_reads' HOa.out).2.1 HBF.out) ?_
      rintro e wb ⟨vh, rfl, hh, hbb⟩
      obtain ⟨Ah, ch, rfl⟩ := Kd.R_slice hh
      have HHb := Aside0.mk (Kd.R_bound hh)
      have HBb := Aside0.mk (below_step HBa.out hbb)
      have HXb := Aside0.mk (HXa.out.below hbb)
      have HOb := Aside0.mk (Kd.R_below HOa.out hbb)
      have HVb := Aside0.mk hbb.size
      clear hh hbb x0 x1 x2 x3
      obtain ⟨x0, x1, x2, x3⟩ := HXb.out.cells
      have HBO := Aside0.mk (show Both w0 (wb.alloc (.cells #[.slice Ah (boundP body out).length ch] 38)) w.heap.size wb.heap.size (.slice Ao out.length co) (.slice Ah (boundP body out).length ch) out (boundP body out) from by
        have hxa := blk_lt HXa.out
        have hva := HVb.out
        have hba := HBa.out.size
        refine ⟨Po, fun k => wa.heap.size ≤ k ∧ k < wb.heap.size, Kd.R_alloc HOb.out _, Kd.R_alloc (Kd.R_lower (Kd.R_mono HHb.out (fun k hk => ⟨hk.2.1, hk.2.2.1⟩)) hba) _, fun k hk => ?_, fun k hk => ?_, blk_new wb _, below_alloc HBb.out _⟩
        · have h1 := HPO.out k hk
          refine ⟨fun h => ?_, ?_, ?_, ?_⟩
          · have := h.1; omega
          · omega
          · omega
          · show k < (wb.heap.push _).size
            rw [Array.size_push]; omega
        · have h1 := hk.1
          have h2 := hk.2
          refine ⟨?_, ?_, ?_⟩
          · omega
          · omega
          · show k < (wb.heap.push _).size
            rw [Array.size_push]; omega)
      have HXc := Aside0.mk (HXb.out.below (below_alloc (Below.refl _ _) (.cells #[.slice Ah (boundP body out).length ch] 38)))
      clear x0 x1 x2 x3
      obtain ⟨x0, x1, x2, x3⟩ := HXc.out.cells
      go_wp2_with fail
      go_step3
      go_wp2_with fail
      go_loopw [1] (fun v1 wr => ∃ (out' : List Int) (hv : Value) (have_ : List ByteArray), out'.length ≤ 40 ∧ Aside0 (Both w0 wr w.heap.size wb.heap.size v1 hv out' have_) ∧ Aside0 (RuleAt wr w.heap.size a b A2 hd_.length c2 A3 body.length c3) ∧ Aside0 (goesP body (body.length - out'.length) out' have_ = planP body out) ∧ Aside0 (have_ = boundP body out') ∧ Aside0 (wb.heap.size < wr.heap.size)) (fun v1 _ => body.length - sliceLen v1)
      case atStart => exact ⟨out, _, boundP body out, by have := HOL.out; omega, HBO, HXc, ⟨HPL.out.symm⟩, ⟨rfl⟩, ⟨by simp⟩⟩
      case round =>
        obtain ⟨out', hv, have_, hol, HBO, HX, HGO, HHB, HSZ⟩ := hrel
        obtain ⟨x0, x1, x2, x3⟩ := HX.out.cells
        obtain ⟨Ao', co', ev⟩ := Kd.R_slice HBO.out.choose_spec.choose_spec.1
        subst ev
        obtain ⟨Ah', ch', ev⟩ := Kd.R_slice HBO.out.choose_spec.choose_spec.2.1
        subst ev
        have HHL := Aside0.mk (show have_.length ≤ 200000000 from by rw [HHB.out]; exact Nat.le_trans (boundP_len HS.out (by omega)) (by omega))
        by_cases hlt : out'.length < body.length
        · have f0 : decide ((out'.length : Int) < (body.length : Int)) = true := decide_eq_true (by omega)
          have f0n : decide (out'.length < body.length) = true := decide_eq_true hlt
          obtain ⟨wo, hwo⟩ : ∃ wo, wo = wr := ⟨_, rfl⟩
          subst hwo
          go_wp2_with fail
          go_loopw [1, 10, 11, 46] (fun v1 v10 v11 v46 wr => ∃ (i : Nat) (best most : Int), i ≤ body.length ∧ v1 = .slice Ao' out'.length co' ∧ v46 = .int .i64 i ∧ v10 = .int .i64 best ∧ v11 = .int .i64 most ∧ Aside0 (scan body have_ out' body.length 0 (-1) (-1) = scan body have_ out' (body.length - i) i best most) ∧ Aside0 (Below wo.heap.size wo wr)) (fun _ _ _ v46 _ => body.length - (intOf v46).toNat)
          case atStart => exact ⟨0, -1, -1, by omega, rfl, rfl, rfl, rfl, ⟨by rw [Nat.sub_zero]⟩, ⟨Below.refl _ _⟩⟩
          case round =>
            obtain ⟨i2, best, most, hil2, rfl, rfl, rfl, rfl, HSC, HQ2⟩ := hrel
            by_cases hlt2 : i2 < body.length
            · have f2 : decide ((i2 : Int) < (body.length : Int)) = true := decide_eq_true (by omega)
              have HB2 := Aside0.mk (HBO.out.below HQ2.out)
              have HBw := Aside0.mk (show Below w0.heap.size w0 wr from by obtain ⟨_, _, _, _, _, _, _, q⟩ := HB2.out; exact q)
              obtain ⟨ad, Ax, cx, ea, hx0, hx1, hx2, hlx, hCx⟩ := at_T24 H3.out.1 (i2 : Int) (by omega) (by omega)
              cases ea
              simp only [Int.toNat_natCast] at hx0 hx1 hx2
              have hx0 := pw_cell_below HBw.out hx0
              have hx1 := pw_cell_below HBw.out hx1
              have hx2 := pw_cell_below HBw.out hx2
              obtain ⟨x, hx⟩ : ∃ x, x = rd_T24 body (i2 : Int) := ⟨_, rfl⟩
              have hlm := HS.out.2 (i2 : Int) (by omega) (by omega)
              rw [← hx] at hx0 hx1 hx2 hlx hCx hlm
              have HXE := Aside0.mk hx
              have HCX := Aside0.mk (And.intro hlx (And.intro hCx hlm))
              have HB3 := Aside0.mk (HB2.out.below (below_alloc (Below.refl _ _) (.cells #[.int .u8 x.f0, .string x.f1, .slice Ax x.f2.length cx] 24)))
              have HXB := Aside0.mk (blk_new wr (.cells #[.int .u8 x.f0, .string x.f1, .slice Ax x.f2.length cx] 24))
              have HCN := Aside0.mk (cont_i out' (i2 : Int) (by omega) (k := 100) (by omega))
              clear hx hlx hCx hlm
              have HOR := Aside0.mk (show out'.length ≤ co' ∧ Kd.C (Kd.int .i64) (wr.alloc (.cells #[.int .u8 x.f0, .string x.f1, .slice Ax x.f2.length cx] 24)) Ao' out'.length out' from by
                obtain ⟨Po, Ph, q1, _⟩ := HB3.out
                exact ⟨(Kd.R_reads' q1).2.1, (Kd.R_reads' q1).2.2⟩)
              go_wp2_with fail
              refine Calls.mono (slices_Contains_int_int.calls 100 Ao' co' out' (i2 : Int) _ _ HOR.out.2 HOR.out.1 HCN.out) ?_
              rintro e w4 ⟨rfl, ⟨nd, rfl⟩⟩
              have HQ4 := Aside0.mk (pw_below_drewN (below_alloc HQ2.out (.cells #[.int .u8 x.f0, .string x.f1, .slice Ax x.f2.length cx] 24)) nd)
              have hsub : body.length - i2 = (body.length - (i2 + 1)) + 1 := by omega
              have HSUB := Aside0.mk hsub
              clear hsub
              by_cases hin : (i2 : Int) ∈ out'
              · have HIN := Aside0.mk hin
                rw [decide_eq_true hin]
                clear hin
                go_wp2
                go_roundw
                case measure => simp [intOf]; omega
                case rel => exact ⟨i2 + 1, best, most, by omega, rfl, by go_num, rfl, rfl, ⟨by rw [HSC.out, HSUB.out, scan, if_pos HIN.out]⟩, HQ4⟩
              · have HIN := Aside0.mk hin
                rw [decide_eq_false hin]
                clear hin
                have HB4 := Aside0.mk (HB3.out.below (pw_below_drewN (Below.refl _ _) nd))
                have HXB4 := Aside0.mk (blk_drewN HXB.out nd)
                have x24 := blk_cell HXB4.out 2
                go_wp2_with fail
                obtain ⟨wq, hwq⟩ : ∃ wq, wq = wr := ⟨_, rfl⟩
                subst hwq
                go_loopw [14, 57] (fun v14 v57 wr => ∃ j n : Nat, j ≤ x.f2.length ∧ n ≤ j ∧ v57 = .int .i64 j ∧ v14 = .int .i64 n ∧ Aside0 (n = (x.f2.take j).countP (isKnown have_)) ∧ Aside0 (Below wo.heap.size wo wr) ∧ Aside0 (wr.heap[wq.heap.size]? = some (.cells #[.int .u8 x.f0, .string x.f1, .slice Ax x.f2.length cx] 24 (0, 0))) ∧ Aside0 (Both w0 wr w.heap.size wb.heap.size (.slice Ao' out'.length co') (.slice Ah' have_.length ch') out' have_)) (fun _ v57 _ => x.f2.length - (intOf v57).toNat)
                case atStart => exact ⟨0, 0, by omega, by omega, rfl, rfl, ⟨rfl⟩, HQ4, HXB4, HB4⟩
                case round =>
                  obtain ⟨j, n, hjl, hnj, rfl, rfl, HCT, HQ5, HXB5, HB5⟩ := hrel
                  have hlm := HCX.out.2.2
                  by_cases hjj : j < x.f2.length
                  · have f5 : decide ((j : Int) < (x.f2.length : Int)) = true := decide_eq_true (by omega)
                    obtain ⟨at_, eat, ht0, ht1, ht2⟩ := at_T50 HCX.out.2.1 (j : Int) (by omega) (by omega)
                    cases eat
                    simp only [Int.toNat_natCast] at ht0 ht1 ht2
                    have ht0 := pw_cell_below HB5.out.facts.2.2.2 ht0
                    have ht1 := pw_cell_below HB5.out.facts.2.2.2 ht1
                    have ht2 := pw_cell_below HB5.out.facts.2.2.2 ht2
                    obtain ⟨t, ht⟩ : ∃ t, t = rd_T50 x.f2 (j : Int) := ⟨_, rfl⟩
                    rw [← ht] at ht0 ht1 ht2
                    have htk : x.f2.take (j + 1) = x.f2.take j ++ [t] := by rw [List.take_add_one, ht]; simp [rd_T50, hjj]
                    have HT := Aside0.mk htk
                    have HB6 := Aside0.mk (HB5.out.below (below_alloc (Below.refl _ _) (.cells #[.string t.f0, .string t.f1.f0, .int .i64 t.f1.f1] 50)))
                    have HXB6 := Aside0.mk (blk_alloc HXB5.out (.cells #[.string t.f0, .string t.f1.f0, .int .i64 t.f1.f1] 50))
                    clear ht htk
                    go_wp2_with fail
                    refine Calls.mono (bound_calls _ t wb.heap.size Ah' ch' have_ HB6.out.facts.1 HB6.out.facts.2.1 HB6.out.facts.2.2.1 HHL.out) ?_
                    rintro e w7 ⟨rfl, hb7⟩
                    have HB7 := Aside0.mk (HB6.out.below hb7)
                    have HXB7 := Aside0.mk (blk_below HXB6.out hb7)
                    have HQ7 := Aside0.mk (below_step (below_alloc HQ5.out (.cells #[.string t.f0, .string t.f1.f0, .int .i64 t.f1.f1] 50)) hb7)
                    clear hb7
                    by_cases hkn : isKnown have_ t = true
                    · have HKN := Aside0.mk hkn
                      rw [hkn]
                      clear hkn
                      go_wp2
                      go_roundw
                      case measure => simp [intOf]; omega
                      case rel => exact ⟨j + 1, n + 1, by omega, by omega, by go_num, by go_num, ⟨by rw [HT.out, List.countP_append, ← HCT.out]; simp [HKN.out]⟩, HQ7, HXB7, HB7⟩
                    · have HKN := Aside0.mk hkn
                      rw [Bool.not_eq_true] at hkn
                      rw [hkn]
                      clear hkn
                      go_wp2
                      go_roundw
                      case measure => simp [intOf]; omega
                      case rel => exact ⟨j + 1, n, by omega, by omega, by go_num, rfl, ⟨by rw [HT.out, List.countP_append, ← HCT.out]; simp [HKN.out]⟩, HQ7, HXB7, HB7⟩
                  · have f5 : decide ((j : Int) < (x.f2.length : Int)) = false := decide_eq_false (by omega)
                    have etk : x.f2.take j = x.f2 := List.take_of_length_le (by omega)
                    have HN := Aside0.mk (show n = knownP x.f2 have_ from by rw [HCT.out, etk]; rfl)
                    have HST := Aside0.mk (show scan body have_ out' body.length 0 (-1) (-1) = if x.f0 = 1 then (if (n : Int) > most then scan body have_ out' (body.length - (i2 + 1)) (i2 + 1) i2 n else scan body have_ out' (body.length - (i2 + 1)) (i2 + 1) best most) else if n = x.f2.length then (true, (i2 : Int)) else scan body have_ out' (body.length - (i2 + 1)) (i2 + 1) best most from by
                      rw [HSC.out, HSUB.out, scan, if_neg HIN.out, ← HXE.out, ← HN.out])
                    clear etk HCT
                    have y0 := blk_cell HXB5.out 0
                    have y2 := blk_cell HXB5.out 2
                    by_cases hk1 : x.f0 = 1
                    · have HK1 := Aside0.mk hk1
                      have fk : (x.f0 != 1) = false := by rw [hk1]; rfl
                      clear hk1
                      by_cases hgt : most < (n : Int)
                      · have fg : decide (most < (n : Int)) = true := decide_eq_true hgt
                        have HGT := Aside0.mk hgt
                        clear hgt
                        go_wp2
                        go_roundw
                        case measure => simp [intOf]; omega
                        case rel => exact ⟨i2 + 1, i2, n, by omega, rfl, by go_num, rfl, rfl, ⟨by rw [HST.out, if_pos HK1.out, if_pos HGT.out]⟩, HQ5⟩
                      · have fg : decide (most < (n : Int)) = false := decide_eq_false hgt
                        have HGT := Aside0.mk hgt
                        clear hgt
                        go_wp2
                        go_roundw
                        case measure => simp [intOf]; omega
                        case rel => exact ⟨i2 + 1, best, most, by omega, rfl, by go_num, rfl, rfl, ⟨by rw [HST.out, if_pos HK1.out, if_neg HGT.out]⟩, HQ5⟩
                    · have HK1 := Aside0.mk hk1
                      have fk : (x.f0 != 1) = true := by rw [bne_iff_ne]; exact hk1
                      clear hk1
                      by_cases hfull : n = x.f2.length
                      · have fg : ((n : Int) == (x.f2.length : Int)) = true := beq_iff_eq.2 (by omega)
                        have HFU := Aside0.mk hfull
                        clear hfull
                        obtain ⟨Po', Ph', r1, r2, r3, r4, r5, r6⟩ := HB5.out
                        have hlen := HL.out
                        have hsz0 := r6.size
                        have HXr := Aside0.mk (HX.out.below HQ5.out)
                        have R1 := Aside0.mk r1
                        have R6 := Aside0.mk r6
                        have RR := Aside0.mk (And.intro r2 (And.intro r3 (And.intro r4 r5)))
                        clear r1 r2 r3 r4 r5 r6
                        go_wp2_with (at_builtin; refine Kd.R_append (Kd.int .i64) (w0 := w0) w0.heap.size rfl (.tmp 75) (.tmp 77) 29 3 (.int .i64 0) 8 rfl Try.underlying29 info3 rfl (by decide) (by omega) (.slice Ao' out'.length co') out' (i2 : Int) [.int .i64 (i2 : Int)] (fun k => Po' k ∨ wr.heap.size ≤ k) (fun _ => False) rfl rfl ?aP (fun _ hk => hk.elim) ?aF ?aO ?aB ?aS ?aL ?_; (case aP => exact rfl); (case aB => exact R6.out); (case aF => exact (fun k hk => .inr hk)); (case aO => exact Kd.R_mono R1.out (fun k hk => .inl hk)); (case aS => exact hsz0); (case aL => omega); intro v8 w8 ho hb hg hat; have HO8 := Aside0.mk ho; have HB8 := Aside0.mk hb; have HG8 := Aside0.mk hg; clear ho hb hg hat)
                        have hlx : ((out' ++ [(i2 : Int)]).length) = out'.length + 1 := by simp
                        have HBT := Aside0.mk (Both.appended R1.out RR.out.1 RR.out.2.1 RR.out.2.2.1 RR.out.2.2.2 (blk_lt HXr.out) HO8.out HB8.out HG8.out)
                        have HRT := Aside0.mk (RuleAt.appended HXr.out R1.out (fun k hk => (RR.out.2.1 k hk).2.1) HG8.out)
                        obtain ⟨A8, c8, e8⟩ := Kd.R_slice HO8.out
                        subst e8
                        refine ⟨⟨out' ++ [(i2 : Int)], _, have_, by omega, HBT, HRT, ⟨by rw [← HGO.out]; exact (goesP_true hlt (by rw [HST.out, if_neg HK1.out, if_pos HFU.out])).symm⟩, ⟨by rw [HHB.out, boundP_other (by rw [← HXE.out]; exact HK1.out)]⟩, ⟨Nat.lt_of_lt_of_le HSZ.out (Nat.le_trans HQ5.out.size HG8.out.size)⟩⟩, ?_⟩
                        show body.length - (out' ++ [(i2 : Int)]).length < body.length - out'.length
                        omega
                      · have fg : ((n : Int) == (x.f2.length : Int)) = false := beq_eq_false_iff_ne.2 (by omega)
                        have HFU := Aside0.mk hfull
                        clear hfull
                        go_wp2
                        go_roundw
                        case measure => simp [intOf]; omega
                        case rel => exact ⟨i2 + 1, best, most, by omega, rfl, by go_num, rfl, rfl, ⟨by rw [HST.out, if_neg HK1.out, if_neg HFU.out]⟩, HQ5⟩
            · have f2 : decide ((i2 : Int) < (body.length : Int)) = false := decide_eq_false (by omega)
              have hsc := HSC.out
              rw [show body.length - i2 = 0 by omega] at hsc
              have HS0 := Aside0.mk (show scan body have_ out' body.length 0 (-1) (-1) = (false, best) from hsc)
              have hin := (scan_in body have_ out' body.length 0 (-1) (-1) (by omega) (.inl rfl)).2 (by rw [HS0.out])
              rw [HS0.out] at hin
              have HIN := Aside0.mk hin
              clear hsc hin HSC
              by_cases hneg : best < 0
              · have fb : decide (best < 0) = true := decide_eq_true hneg
                have HPL2 := Aside0.mk (show planP body out = ([], false) from by rw [← HGO.out]; exact goesP_none hlt HS0.out hneg)
                have HBw := Aside0.mk (show Below w0.heap.size w0 wr from by obtain ⟨_, _, _, _, _, _, _, q⟩ := (HBO.out.below HQ2.out); exact q)
                go_wp2
                (try rw [Exit.noGoto_ret])
                go_ret2
                exact ⟨_, by rw [HPL2.out]; rfl, by rw [HPL2.out]; exact Kd.R_nil _ _ _ _ _, HBw.out⟩
              · have fb : decide (best < 0) = false := decide_eq_false hneg
                have hbst : 0 ≤ best ∧ best < body.length ∧ (rd_T24 body best).f0 = 1 := by
                  rcases HIN.out with h | h
                  · exact absurd h (by omega)
                  · exact ⟨h.1, h.2.1, h.2.2.2⟩
                obtain ⟨Po', Ph', r1, r2, r3, r4, r5, r6⟩ := HBO.out.below HQ2.out
                have hlen := HL.out
                have hsz0 := r6.size
                have HXr := Aside0.mk (HX.out.below HQ2.out)
                have R1 := Aside0.mk r1
                have R6 := Aside0.mk r6
                have RR := Aside0.mk (And.intro r2 (And.intro r3 (And.intro r4 r5)))
                clear r1 r2 r3 r4 r5 r6
                go_wp2_with (at_builtin; refine Kd.R_append (Kd.int .i64) (w0 := w0) w0.heap.size rfl (.tmp 87) (.tmp 89) 29 3 (.int .i64 0) 8 rfl Try.underlying29 info3 rfl (by decide) (by omega) (.slice Ao' out'.length co') out' best [.int .i64 best] (fun k => Po' k ∨ wr.heap.size ≤ k) (fun _ => False) rfl rfl ?aP (fun _ hk => hk.elim) ?aF ?aO ?aB ?aS ?aL ?_; (case aP => exact rfl); (case aB => exact R6.out); (case aF => exact (fun k hk => .inr hk)); (case aO => exact Kd.R_mono R1.out (fun k hk => .inl hk)); (case aS => exact hsz0); (case aL => omega); intro v8 w8 ho hb hg hat; have HO8 := Aside0.mk ho; have HB8 := Aside0.mk hb; have HG8 := Aside0.mk hg; clear ho hb hg hat)
                obtain ⟨ad, Ax, cx, ea, hx0, hx1, hx2, hlx, hCx⟩ := at_T24 H3.out.1 best hbst.1 hbst.2.1
                cases ea
                have hlm := HS.out.2 best hbst.1 hbst.2.1
                obtain ⟨x, hx⟩ : ∃ x, x = rd_T24 body best := ⟨_, rfl⟩
                rw [← hx] at hx0 hx1 hx2 hlx hCx hlm
                have HXE := Aside0.mk hx
                have HCX := Aside0.mk (And.intro hlx (And.intro hCx hlm))
                have HBT := Aside0.mk ((Both.appended R1.out RR.out.1 RR.out.2.1 RR.out.2.2.1 RR.out.2.2.2 (blk_lt HXr.out) HO8.out HB8.out HG8.out).below (below_drew (Below.refl _ w8)))
                have HRT := Aside0.mk ((RuleAt.appended HXr.out R1.out (fun k hk => (RR.out.2.1 k hk).2.1) HG8.out).below (below_drew (Below.refl _ w8)))
                have HSZ8 := Aside0.mk (show wb.heap.size < w8.drew.heap.size from Nat.lt_of_lt_of_le HSZ.out (Nat.le_trans HQ2.out.size HG8.out.size))
                obtain ⟨A8, c8, e8⟩ := Kd.R_slice HO8.out
                subst e8
                have HCE := Aside0.mk (And.intro hx0 (And.intro hx1 hx2))
                have hx0 := pw_cell_below (below_drew HB8.out) hx0
                have hx1 := pw_cell_below (below_drew HB8.out) hx1
                have hx2 := pw_cell_below (below_drew HB8.out) hx2
                have HPB := Aside0.mk hbst
                have p1 : (0 ≤ best) = True := eq_true hbst.1
                have p2 : (best < (body.length : Int)) = True := eq_true hbst.2.1
                clear hx hlx hCx hlm HO8 HB8 HG8 R1 R6 RR HXr hsz0
                refine start_ (n := 9) (S := fun w' => w'.cell? ⟨wb.heap.size, 0, none⟩ = some (.slice Ah' have_.length ch') ∧ w'.cell? ⟨w.heap.size, 3, none⟩ = some (.slice (some ad) body.length c3) ∧ w'.cell? (ad.add (best.toNat * 3)) = some (.int .u8 x.f0) ∧ w'.cell? ⟨(ad.add (best.toNat * 3)).block, (ad.add (best.toNat * 3)).off + 1, none⟩ = some (.string x.f1) ∧ w'.cell? ⟨(ad.add (best.toNat * 3)).block, (ad.add (best.toNat * 3)).off + 2, none⟩ = some (.slice Ax x.f2.length cx)) (ds := [8]) #[false, false, false, false, false, false, false, false, false] (by kernel_rfl) rfl rfl ⟨blk_cell HBT.out.facts.1 0, HRT.out.cells.2.2.2, hx0, hx1, hx2⟩ (fun hHeld => ?_)
                generalize w8.drew = w9 at HBT HRT HSZ8 hx0 hx1 hx2 hHeld ⊢
                refine pure_ (i := 1) (N := some 92) (v := ?_) (a' := ?_) #[false, true, false, false, false, false, false, false, false] rfl rfl (by kernel_rfl) (fun _ _ _ h => h) (Or.inl ⟨by rfl, ?_⟩) ?_ ?_
                rotate_left
                · intro w'
                  go_simp
                  with_reducible rfl
                rotate_left
                · simp only [Act.put, List.setIfInBounds_toArray, List.set_cons_zero, List.set_cons_succ, i64_w, i32_w]
                  rfl
                refine pure_ (i := 3) (N := some 94) (v := ?_) (a' := ?_) #[false, true, false, true, false, false, false, false, false] rfl rfl (by kernel_rfl) (fun _ _ _ h => h) (Or.inl ⟨by rfl, ?_⟩) ?_ ?_
                rotate_left
                · intro w'
                  go_simp
                  with_reducible rfl
                rotate_left
                · simp only [Act.put, List.setIfInBounds_toArray, List.set_cons_zero, List.set_cons_succ, i64_w, i32_w]
                  rfl
                refine take_ (i := 0) (N := some 91) (v := ?_) (a' := ?_) #[true, true, false, true, false, false, false, false, false] rfl rfl (by kernel_rfl) (fun _ _ _ h => h) (Or.inl ⟨by rfl, ?_⟩) hHeld ?_ ?_
                rotate_left
                · rintro w' ⟨s0, s1, s2, s3, s4⟩
                  go_simp
                  with_reducible rfl
                rotate_left
                · simp only [Act.put, List.setIfInBounds_toArray, List.set_cons_zero, List.set_cons_succ, i64_w, i32_w]
                  rfl
                refine take_ (i := 2) (N := some 93) (v := ?_) (a' := ?_) #[true, true, true, true, false, false, false, false, false] rfl rfl (by kernel_rfl) (fun _ _ _ h => h) (Or.inl ⟨by rfl, ?_⟩) hHeld ?_ ?_
                rotate_left
                · rintro w' ⟨s0, s1, s2, s3, s4⟩
                  go_simp
                  with_reducible rfl
                rotate_left
                · simp only [Act.put, List.setIfInBounds_toArray, List.set_cons_zero, List.set_cons_succ, i64_w, i32_w]
                  rfl
                refine pure_ (i := 4) (N := some 95) (v := ?_) (a' := ?_) #[true, true, true, true, true, false, false, false, false] rfl rfl (by kernel_rfl) (fun _ _ _ h => h) (Or.inl ⟨by rfl, ?_⟩) ?_ ?_
                rotate_left
                · intro w'
                  go_simp
                  with_reducible rfl
                rotate_left
                · simp only [Act.put, List.setIfInBounds_toArray, List.set_cons_zero, List.set_cons_succ, i64_w, i32_w]
                  rfl
                refine take_ (i := 5) (N := some 96) (v := ?_) (a' := ?_) #[true, true, true, true, true, true, false, false, false] rfl rfl (by kernel_rfl) (fun _ _ _ h => h) (Or.inl ⟨by rfl, ?_⟩) hHeld ?_ ?_
                rotate_left
                · rintro w' ⟨s0, s1, s2, s3, s4⟩
                  go_simp
                  with_reducible rfl
                rotate_left
                · simp only [Act.put, List.setIfInBounds_toArray, List.set_cons_zero, List.set_cons_succ, i64_w, i32_w]
                  rfl
                obtain ⟨Po9, Ph9, q1, q2, q3, q4, q5, q6⟩ := HBT.out
                have HB10 := Aside0.mk q6
                have hgh := blk_lt q5
                have hgr := blk_lt HRT.out
                have hvf := vars_f x.f0 x.f1 x.f2 HCX.out.2.2 (k := 4000000) (by omega)
                refine one_ (i := 6) (N := some 97) #[true, true, true, true, true, true, true, false, false] rfl rfl (by kernel_rfl) (by decide) (fun K hK => ?_)
                refine goes_ Try.func14 (by kernel_rfl) rfl #[.agg #[.int .u8 x.f0, .string x.f1, .slice Ax x.f2.length cx]] (by rfl) rfl rfl (by (try simp only [List.map_toArray, List.map_cons, List.map_nil]); first | done | rfl) ?_
                refine (plan_Vars.calls 4000000 x.f0 x.f1 _ _ x.f2 _ _ (Kd.C_below HCX.out.2.1 q6) HCX.out.1 hvf).mono ?_
                rintro e w10 ⟨vv, rfl, ho10, hb10⟩
                refine ⟨_, rfl, ?_⟩
                obtain ⟨Av, cv, ev⟩ := Kd.R_slice ho10
                subst ev
                have hr10 := Kd.R_bound ho10
                have q60 := below_step q6 hb10
                have HRT10 := Aside0.mk (HRT.out.below hb10)
                have HBL10 := Aside0.mk (blk_below q5 hb10)
                refine hK.out _ _ ⟨blk_cell HBL10.out 0, HRT10.out.cells.2.2.2, pw_cell_below q60 HCE.out.1, pw_cell_below q60 HCE.out.2.1, pw_cell_below q60 HCE.out.2.2⟩ (fun hHeld => ?_)
                clear hK K
                refine norm_ (a' := ?_) ?_ ?_
                rotate_left
                · show Act.put _ (some 97) _ = _
                  simp only [Act.put, List.setIfInBounds_toArray, List.set_cons_zero, List.set_cons_succ, i64_w, i32_w]
                  rfl
                have hpf := put_f have_ (varsP x.f2) (k := 900000000) (by have := HHL.out; have := HCX.out.2.2; have := varsP_len x.f2; omega) (by have := HHL.out; have := HCX.out.2.2; have := varsP_len x.f2; omega)
                refine one_ (i := 7) (N := some 98) #[true, true, true, true, true, true, true, true, false] rfl rfl (by kernel_rfl) (by decide) (fun K hK => ?_)
                refine goes_ Try.func23 (by kernel_rfl) rfl #[.slice Ah' have_.length ch', .slice Av (varsP x.f2).length cv] (by rfl) rfl rfl (by (try simp only [List.map_toArray, List.map_cons, List.map_nil]); first | done | rfl) ?_
                refine (plan_put.calls 900000000 Ph9 _ have_ _ _ (varsP x.f2) _ w0 w10 q60 (Kd.R_below q2 hb10) (Kd.C_kept_own hr10 (fun k hk hp => by have h1 := hk.2.1; have h2 := (q4 k hp).2.2; omega)) (Kd.R_reads' hr10).2.1 hpf).mono ?_
                rintro e w11 ⟨v11, rfl, ho11, hb11, hk11⟩
                obtain ⟨A11, c11, ev⟩ := Kd.R_slice ho11
                subst ev
                refine ⟨_, rfl, ?_⟩
                have HRT11 := Aside0.mk (show RuleAt w11 w.heap.size a b A2 hd_.length c2 (some ad) body.length c3 from blk_kept HRT10.out hk11 (fun hp => (q4 _ hp).1 rfl))
                have HBL11 := Aside0.mk (blk_kept HBL10.out hk11 (fun hp => (q4 _ hp).2.1 rfl))
                refine hK.out _ _ ⟨blk_cell HBL11.out 0, HRT11.out.cells.2.2.2, pw_cell_below hb11 HCE.out.1, pw_cell_below hb11 HCE.out.2.1, pw_cell_below hb11 HCE.out.2.2⟩ (fun hHeld => ?_)
                clear hK K
                refine norm_ (a' := ?_) ?_ ?_
                rotate_left
                · show Act.put _ (some 98) _ = _
                  simp only [Act.put, List.setIfInBounds_toArray, List.set_cons_zero, List.set_cons_succ, i64_w, i32_w]
                  rfl
                have HBS := Aside0.mk (Both.stored q1 q3 q4 q5 hgr hb10 ho11 hb11 hk11 (show w0.heap.size ≤ wb.heap.size from HBb.out.size))
                have hs1 := blk_cell HBL11.out 0
                have hf1 := blk_frozen HBL11.out 0
                have HRS := Aside0.mk (show RuleAt (w11.setCell ⟨wb.heap.size, 0, none⟩ (.slice A11 (putsS have_ (varsP x.f2)).length c11)) w.heap.size a b A2 hd_.length c2 (some ad) body.length c3 from blk_far HRT11.out (show w.heap.size ≠ wb.heap.size from Nat.ne_of_lt (blk_lt HXb.out)) _)
                have HSZ11 := Aside0.mk (show wb.heap.size < (w11.setCell ⟨wb.heap.size, 0, none⟩ (.slice A11 (putsS have_ (varsP x.f2)).length c11)).heap.size from blk_lt (blk_put HBL11.out 0 _ rfl))
                refine last_ (i := 8) (N := none) #[true, true, true, true, true, true, true, true, true] rfl rfl (by kernel_rfl) (by decide) (fun K hK => ?_)
                refine skip_ (w1 := ?_) (by rfl) rfl ?_ ?_
                rotate_left
                · go_simp
                  rfl
                refine hK.out _ _ ?_
                clear hK K
                refine done_ (by kernel_rfl) ?_
                try go_wp2
                have hlx : ((out' ++ [best]).length) = out'.length + 1 := by simp
                have hlen := HL.out
                refine ⟨⟨out' ++ [best], _, putsS have_ (varsP x.f2), by omega, HBS, HRS, ⟨by rw [HXE.out, ← HGO.out]; exact (goesP_best hlt HS0.out (by omega)).symm⟩, ⟨by rw [HXE.out, HHB.out, boundP_lpos HPB.out.1 HPB.out.2.1 HPB.out.2.2]⟩, HSZ11⟩, ?_⟩
                show body.length - (out' ++ [best]).length < body.length - out'.length
                omega
        · have f0 : decide ((out'.length : Int) < (body.length : Int)) = false := decide_eq_false (by omega)
          have f0n : decide (out'.length < body.length) = false := decide_eq_false hlt
          have hgo := HGO.out
          rw [show body.length - out'.length = 0 by omega] at hgo
          have HPL2 := Aside0.mk (show planP body out = (out', true) from hgo.symm)
          clear hgo
          go_wp2
          rw [Exit.noGoto_ret]
          go_ret2
          obtain ⟨Po, Ph, q1, q2, q3, q4, q5, q6⟩ := HBO.out
          exact ⟨_, by rw [HPL2.out]; rfl, by rw [HPL2.out]; exact Kd.R_mono q1 (fun _ _ => trivial), q6⟩

end Go.Proofs.Ytngamodmbgjajaa.PPlanOrders
