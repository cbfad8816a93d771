/- What InternNothing answers: true, where the numbers asked are not too many. No condition beyond those each theorem names. -/
import Derived.Test.YtjkicljcmognhaaPures
namespace Go.Proofs.Ytjkicljcmognhaa.PInternPlays
open Go.RowKit Go.Proofs.YtjkicljcmognhaaW.PrintWords Go.Proofs.YtjkicljcmognhaaW.PrintLast Go.Proofs.YtjkicljcmognhaaW.PrintMore
set_option linter.unusedVariables false
set_option linter.unusedSimpArgs false

theorem nil_pool (w : World) (b : Nat) : PoolR w b (fun _ => False) (.pointer none) 0 [] := .inl ⟨rfl, rfl, rfl⟩
theorem nil_cons {x : S31} {l : List S31} : 0 < (addAll [] (x :: l)).length := by
  obtain ⟨t, h⟩ := addAll_pre l (addOne [] x)
  have : addAll [] (x :: l) = addAll (addOne [] x) l := rfl
  rw [this, h, List.length_append]
  have h2 := List.length_pos_of_mem (addOne_mem [] x)
  omega
theorem nil_rowE (l : List S31) : rowE 0 [] l = (if l.all goodV = false then 1 else if l.length = 0 then 0 else 3) := by
  unfold rowE
  cases l with
  | nil => rfl
  | cons x r =>
    rw [if_pos (c := 0 < _) nil_cons]
    split
    · rfl
    · rw [if_neg (by simp)]
theorem nil_rowNs (l : List S31) : rowNs 0 [] l = [] := by
  unfold rowNs
  rw [nil_rowE]
  cases l with
  | nil => rfl
  | cons x r =>
    rw [if_neg]
    by_cases h : (x :: r).all goodV = false
    · rw [if_pos h]; omega
    · rw [if_neg h, if_neg (by simp)]; omega
/-- What the row of nothing tells. -/
theorem nil_three {l : List S31} {g : Bool} {re : Int} (hg : g = l.all goodV) (hre : re = if g = false then 1 else if l.length = 0 then 0 else 3) : (l.length = 0 ∧ re = 0) ∨ (0 < l.length ∧ g = true ∧ re = 3) ∨ (0 < l.length ∧ g = false ∧ re = 1) := by
  cases l with
  | nil => subst hg; left; exact ⟨rfl, hre⟩
  | cons y r =>
    right
    cases g
    · right; exact ⟨by simp, rfl, hre⟩
    · left; exact ⟨by simp, rfl, by rw [hre]; simp⟩
theorem nil_putE (v : S31) : rowE 0 [] [v] = (if goodV v = true then 3 else 1) := by
  rw [nil_rowE]
  cases h : goodV v <;> simp [h]
theorem nil_allIn (l : List Int) : allIn [] l = decide (l.length = 0) := by
  cases l with
  | nil => rfl
  | cons x r =>
    unfold allIn
    simp
    intro h
    omega
theorem nil_valsOf (l : List Int) : valsOf [] l = [] := by
  unfold valsOf
  rw [nil_allIn]
  cases l with
  | nil => rfl
  | cons x r => simp

/-- The argument, boxed. -/
def NilAt (w : World) (g : Nat) (x : S31) (n : Int) (A : Option Addr) (k c : Nat) (A' : Option Addr) (k' c' : Nat) : Prop :=
  w.heap[g]? = some (.cells #[.string x.f0, .int .i64 x.f1, .int .i64 n, .slice A k c, .slice A' k' c'] 51 (0, 0))
theorem NilAt.cells {w : World} {g : Nat} {x : S31} {n : Int} {A : Option Addr} {k c : Nat} {A' : Option Addr} {k' c' : Nat} (h : NilAt w g x n A k c A' k' c') :
    w.cell? ⟨g, 0, none⟩ = some (.string x.f0) ∧ w.cell? ⟨g, 1, none⟩ = some (.int .i64 x.f1) ∧ w.cell? ⟨g, 2, none⟩ = some (.int .i64 n) ∧ w.cell? ⟨g, 3, none⟩ = some (.slice A k c) ∧ w.cell? ⟨g, 4, none⟩ = some (.slice A' k' c') :=
  ⟨blk_cell h 0, blk_cell h 1, blk_cell h 2, blk_cell h 3, blk_cell h 4⟩
theorem NilAt.below {w w' : World} {g : Nat} {x : S31} {n : Int} {A : Option Addr} {k c : Nat} {A' : Option Addr} {k' c' : Nat} (h : NilAt w g x n A k c A' k' c') (hb : Below w.heap.size w w') : NilAt w' g x n A k c A' k' c' := blk_below h hb

set_option maxHeartbeats 1000000 in
set_option maxRecDepth 100000 in
theorem Nothing_calls (w : World) (x : S31) (n : Int) (A : Option Addr) (c : Nat) (l : List S31) (hl : Kd.C k31 w A l.length l) (hc : l.length ≤ c) (A' : Option Addr) (c' : Nat) (ns : List Int) (hl' : Kd.C (Kd.int .i64) w A' ns.length ns) (hc' : ns.length ≤ c') (hn : l.length * 8 ≤ 140737488355328) (hn' : ns.length * 24 ≤ 140737488355328) :
    Calls Try.prog 4 #[.agg #[.string x.f0, .int .i64 x.f1, .int .i64 n, .slice A l.length c, .slice A' ns.length c']] w fun e w' => e = .returned (.bool true) ∧ Below w.heap.size w w' := by
  have HL := Aside0.mk hl
  have HL' := Aside0.mk hl'
  have HCC := Aside0.mk hc
  have HCC' := Aside0.mk hc'
  have HN := Aside0.mk hn
  have HN' := Aside0.mk hn'
  have HX0 := Aside0.mk (show NilAt (w.alloc (.cells #[.string x.f0, .int .i64 x.f1, .int .i64 n, .slice A l.length c, .slice A' ns.length c'] 51)) w.heap.size x n A l.length c A' ns.length c' from blk_new w _)
  have HB0 := Aside0.mk (below_alloc (Below.refl _ w) (.cells #[.string x.f0, .int .i64 x.f1, .int .i64 n, .slice A l.length c, .slice A' ns.length c'] 51))
  clear hl hl' hc hc' hn hn'
  go_enter Try.func4, Try.ntmps4
  go_wp2_with fail
  refine (fixed_calls _).mono ?_
  rintro e w1 ⟨rfl, hb⟩
  have HX1 := Aside0.mk (HX0.out.below hb)
  have HB1 := Aside0.mk (below_step HB0.out hb)
  clear hb HX0 HB0
  go_wp2_with fail
  go_loopw [4, 5] (fun v3 v4 wr => ∃ i : Nat, i ≤ l.length ∧ v4 = .int .i64 i ∧ v3 = .bool ((l.take i).all goodV) ∧ Aside0 (Below w.heap.size w wr) ∧ Aside0 (NilAt wr w.heap.size x n A l.length c A' ns.length c')) (fun v3 v4 _ => l.length - (intOf v4).toNat)
  case atStart => exact ⟨0, by omega, rfl, rfl, HB1, HX1⟩
  case round =>
    clear HB1 HX1
    obtain ⟨i, hil, rfl, rfl, HB, HX⟩ := hrel
    obtain ⟨x0, x1, x2, x3, x4⟩ := HX.out.cells
    by_cases hlt : i < l.length
    · have hd : decide ((i : Int) < (l.length : Int)) = true := decide_eq_true (by omega)
      obtain ⟨ad, ea, hs0, hs1⟩ := at_T31 (Kd.C_below HL.out HB.out) (i : Int) (by omega) (by omega)
      cases ea
      obtain ⟨y, hy⟩ : ∃ y, y = rd_T31 l (i : Int) := ⟨_, rfl⟩
      have htk : l.take (i + 1) = l.take i ++ [y] := by rw [List.take_add_one, hy]; simp [rd_T31, hlt]
      have HT := Aside0.mk htk
      rw [← hy] at hs0 hs1
      simp only [Int.toNat_natCast] at hs0 hs1
      clear hy htk
      obtain ⟨g, hg⟩ : ∃ g, g = (l.take i).all goodV := ⟨_, rfl⟩
      have HG := Aside0.mk hg
      have hnn := HN.out
      rw [← hg]
      clear hg
      cases g
      · go_wp2
        go_roundw
        case measure => simp [intOf]; omega
        case rel => exact ⟨i + 1, by omega, by go_num, by rw [HT.out, List.all_append, ← HG.out]; rfl, HB, HX⟩
      · go_wp2_with (go_at_call 21; refine Calls.mono (mandateref01_Good.calls 20 y.f0 y.f1 (goodV y) _ (ref_good y)) ?_; rintro e w2 ⟨rfl, hb⟩; have HB2 := Aside0.mk (below_step HB.out hb); have HX2 := Aside0.mk (HX.out.below hb); clear hb)
        go_roundw
        case measure => simp [intOf]; omega
        case rel => exact ⟨i + 1, by omega, by go_num, by rw [HT.out, List.all_append, ← HG.out]; simp, HB2, HX2⟩
    · have hd : decide ((i : Int) < (l.length : Int)) = false := decide_eq_false (by omega)
      have e1 : l.take i = l := List.take_of_length_le (by omega)
      rw [e1]
      clear e1
      obtain ⟨g, hg⟩ : ∃ g, g = l.all goodV := ⟨_, rfl⟩
      have HG := Aside0.mk hg
      rw [← hg]
      clear hg
      go_wp2_with fail
      refine (Put_any (nil_pool wr wr.heap.size) (Nat.le_refl _) x).mono ?_
      rintro e w2 ⟨P2, rfl, _, _, hb, _⟩
      obtain ⟨pn, hpn⟩ : ∃ pn, pn = putN 0 [] x := ⟨_, rfl⟩
      obtain ⟨pe, hpe⟩ : ∃ pe, pe = rowE 0 [] [x] := ⟨_, rfl⟩
      rw [← hpn, ← hpe]
      rw [nil_putE] at hpe
      have HPE := Aside0.mk hpe
      have HB2 := Aside0.mk (below_step HB.out hb)
      have HX2 := Aside0.mk (HX.out.below hb)
      clear hb hpn hpe HB HX x0 x1 x2 x3 x4
      obtain ⟨x0, x1, x2, x3, x4⟩ := HX2.out.cells
      go_wp2_with fail
      refine (Row_any (nil_pool w2 w2.heap.size) (Nat.le_refl _) A c l (Kd.C_kept_came (Kd.heap_iso _ (Kd.heap_pair Kd.heap_string (Kd.heap_int _))) HL.out HB2.out (fun _ h => h.elim)) HCC.out HN.out).mono ?_
      rintro e w3 ⟨v0, P3, rfl, _, _, ho, hb, _⟩
      rw [nil_rowNs] at ho
      obtain ⟨A3, c3, rfl⟩ := Kd.R_slice ho
      obtain ⟨re, hre⟩ : ∃ re, re = rowE 0 [] l := ⟨_, rfl⟩
      rw [← hre]
      rw [nil_rowE, ← HG.out] at hre
      have HRE := Aside0.mk hre
      have HB3 := Aside0.mk (below_step HB2.out hb)
      have HX3 := Aside0.mk (HX2.out.below hb)
      clear ho hb hre HB2 HX2 x0 x1 x2 x3 x4
      obtain ⟨x0, x1, x2, x3, x4⟩ := HX3.out.cells
      go_wp2_with fail
      refine Calls.mono (Find_any (nil_pool w3 w3.heap.size).v x) ?_
      rintro e w4 ⟨rfl, hb⟩
      have HB4 := Aside0.mk (below_step HB3.out hb)
      have HX4 := Aside0.mk (HX3.out.below hb)
      clear hb HB3 HX3 x0 x1 x2 x3 x4
      obtain ⟨x0, x1, x2, x3, x4⟩ := HX4.out.cells
      go_wp2_with fail
      have hgv : getV [] n = (z31, false) := by unfold getV; rw [if_neg (by simp)]
      refine Calls.mono (by have := Get_any (nil_pool w4 w4.heap.size).v n; rw [hgv] at this; unfold vv z31 at this; exact this) ?_
      rintro e w5 ⟨rfl, hb⟩
      have HB5 := Aside0.mk (below_alloc (below_step HB4.out hb) (.cells #[.string ⟨#[]⟩, .int .i64 0] 31))
      have HX5 := Aside0.mk ((HX4.out.below hb).below (below_alloc (Below.refl _ _) (.cells #[.string ⟨#[]⟩, .int .i64 0] 31)))
      obtain ⟨y0, y1, y2, y3, y4⟩ := (HX4.out.below hb).cells
      clear hb HB4 HX4 x0 x1 x2 x3 x4 hgv
      obtain ⟨x0, x1, x2, x3, x4⟩ := HX5.out.cells
      go_wp2_with fail
      refine Calls.mono (Values_any (nil_pool _ w5.heap.size).v A' c' ns (Kd.C_below HL'.out HB5.out) HCC'.out HN'.out) ?_
      rintro e w6 ⟨v1, rfl, ho, hb⟩
      rw [nil_valsOf] at ho
      obtain ⟨A6, c6, rfl⟩ := Kd.R_slice ho
      rw [nil_allIn]
      obtain ⟨bn, hbn⟩ : ∃ b, b = decide (ns.length = 0) := ⟨_, rfl⟩
      have HBN := Aside0.mk hbn
      rw [← hbn]
      clear hbn
      have HB6 := Aside0.mk (below_step HB5.out hb)
      have HX6 := Aside0.mk (HX5.out.below hb)
      clear hb ho HB5 HX5 x0 x1 x2 x3 x4
      obtain ⟨x0, x1, x2, x3, x4⟩ := HX6.out.cells
      go_wp2_with fail
      refine (Clear_any (nil_pool w6 w6.heap.size) (Nat.le_refl _)).mono ?_
      rintro e w7 ⟨rfl, _, _, hb⟩
      have HB7 := Aside0.mk (below_step HB6.out hb)
      have HX7 := Aside0.mk (HX6.out.below hb)
      clear hb HB6 HX6 x0 x1 x2 x3 x4
      obtain ⟨x0, x1, x2, x3, x4⟩ := HX7.out.cells
      obtain ⟨gx, hgx⟩ : ∃ g, g = goodV x := ⟨_, rfl⟩
      have hgood := ref_good x
      rw [← hgx] at hgood
      have HGX := Aside0.mk hgood
      have hpe := HPE.out
      rw [← hgx] at hpe
      have hns : (bn = true ∧ ((ns.length : Int) == 0) = true) ∨ (bn = false ∧ ((ns.length : Int) == 0) = false) := by
        rw [HBN.out]
        by_cases h : ns.length = 0
        · exact .inl ⟨decide_eq_true h, by rw [beq_iff_eq]; omega⟩
        · exact .inr ⟨decide_eq_false h, by rw [beq_eq_false_iff_ne]; omega⟩
      have hls := nil_three HG.out HRE.out
      clear hgx hgood HG HRE HPE HBN
      have hpe2 : (gx = true ∧ pe = 3) ∨ (gx = false ∧ pe = 1) := by
        cases gx
        · exact .inr ⟨rfl, hpe⟩
        · exact .inl ⟨rfl, hpe⟩
      clear hpe
      have hll : (l.length = 0 ∧ ((l.length : Int) == 0) = true) ∨ (0 < l.length ∧ ((l.length : Int) == 0) = false) := by
        by_cases h : l.length = 0
        · exact .inl ⟨h, by rw [beq_iff_eq]; omega⟩
        · exact .inr ⟨by omega, by rw [beq_eq_false_iff_ne]; omega⟩
      rcases hpe2 with ⟨rfl, rfl⟩ | ⟨rfl, rfl⟩
      all_goals rcases hns with ⟨rfl, hn1⟩ | ⟨rfl, hn1⟩
      all_goals rcases hls with ⟨h1, rfl⟩ | ⟨h1, rfl, rfl⟩ | ⟨h1, rfl, rfl⟩
      all_goals rcases hll with ⟨h2, h3⟩ | ⟨h2, h3⟩
      all_goals try (exfalso; omega)
      all_goals go_wp2_with (first | (go_at_call 21; refine Calls.mono (mandateref01_Good.calls 20 x.f0 x.f1 _ _ HGX.out) ?_; rintro e w8 ⟨rfl, hb⟩; have HB8 := Aside0.mk (below_step HB7.out hb); have HX8 := Aside0.mk (HX7.out.below hb); clear hb x0 x1 x2 x3 x4; obtain ⟨x0, x1, x2, x3, x4⟩ := HX8.out.cells) | (go_at_call 20; refine Calls.mono (Len_any (nil_pool _ w8.heap.size).v) ?_; rintro e w9 ⟨rfl, ⟨nd, rfl⟩⟩; have HB9 := Aside0.mk (pw_below_drewN HB8.out nd); have HX9 := Aside0.mk (HX8.out.below (pw_below_drewN (Below.refl _ _) nd)); clear x0 x1 x2 x3 x4; obtain ⟨x0, x1, x2, x3, x4⟩ := HX9.out.cells))
      all_goals go_ret
      all_goals exact ⟨by first | rfl | rw [hn1] | simp [hn1], HB9.out⟩

end Go.Proofs.Ytjkicljcmognhaa.PInternPlays
