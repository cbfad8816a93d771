/- The chapter's example, as the laws ask it first: it holds. No condition beyond those each theorem names. -/
import Derived.Test.YtjkicljcmognhaaPuts
namespace Go.Proofs.Ytjkicljcmognhaa.PInternPlays
open Go.RowKit Go.Proofs.YtjkicljcmognhaaW.PrintWords Go.Proofs.YtjkicljcmognhaaW.PrintLast Go.Proofs.YtjkicljcmognhaaW.PrintMore
set_option linter.unusedVariables false
set_option linter.unusedSimpArgs false

/-- A Put that goes well. -/
theorem put_at {w : World} {base : Nat} {P : Nat → Prop} {pv : Value} {vs : List S31} (hp : PoolR w base P pv 4096 vs) (hbase : base ≤ w.heap.size) (v : S31) {n : Int} {vs' : List S31} (hE : rowE 4096 vs [v] = 0) (hn : num (addOne vs v) v = n) (hv : addOne vs v = vs') :
    Calls Try.prog 10 #[pv, .agg #[.string v.f0, .int .i64 v.f1]] w fun e w' => ∃ P', e = .returned (.tuple #[.int .i64 n, .int .i64 0]) ∧ PoolR w' base P' pv 4096 vs' ∧ Below base w w' := by
  refine (Put_any hp hbase v).mono ?_
  rintro e w' ⟨P', h1, h2, h3, h4, h5⟩
  refine ⟨P', ?_, ?_, h4⟩
  · rw [h1, hE]; unfold putN; rw [if_pos hE, hn]
  · rw [rowVs_zero hE] at h3
    have : addAll vs [v] = addOne vs v := rfl
    rw [this, hv] at h3
    exact h3

def va : S31 := ⟨⟨#[97]⟩, 0⟩
def vb : S31 := ⟨⟨#[98]⟩, 0⟩
def v7 : S31 := ⟨⟨#[]⟩, 7⟩
theorem good_a : goodV va = true := by decide +kernel
theorem good_b : goodV vb = true := by decide +kernel
theorem good_7 : goodV v7 = true := by decide +kernel
theorem ab : va ≠ vb := by decide +kernel
theorem a7 : va ≠ v7 := by decide +kernel
theorem b7 : vb ≠ v7 := by decide +kernel

theorem e1 : rowE 4096 [] [va] = 0 := by decide +kernel
theorem e2 : rowE 4096 [va] [v7] = 0 := by decide +kernel
theorem e3 : rowE 4096 [va, v7] [va] = 0 := by decide +kernel
theorem e4 : rowE 4096 [va, v7] [v7, vb, vb] = 0 := by decide +kernel
theorem n1 : num (addOne [] va) va = 0 := by decide +kernel
theorem n2 : num (addOne [va] v7) v7 = 1 := by decide +kernel
theorem n3 : num (addOne [va, v7] va) va = 0 := by decide +kernel
theorem a1 : addOne [] va = [va] := by decide +kernel
theorem a2 : addOne [va] v7 = [va, v7] := by decide +kernel
theorem a3 : addOne [va, v7] va = [va, v7] := by decide +kernel
theorem a4 : addAll [va, v7] [v7, vb, vb] = [va, v7, vb] := by decide +kernel
theorem n4 : [v7, vb, vb].map (num [va, v7, vb]) = [1, 2, 2] := by decide +kernel
theorem g1 : getV [va, v7] 1 = (v7, true) := by decide +kernel
theorem v1 : allIn [va, v7, vb] [2] = true := by decide +kernel
theorem v2 : valsOf [va, v7, vb] [2] = [vb] := by decide +kernel
theorem f1 : idx [va, v7, vb] vb = some 2 := by decide +kernel

theorem C_ints {w : World} {b : Nat} (l : List Int) (hl : l.length ≤ 9223372036854775807) (h : w.heap[b]? = some (.cells (l.map (Value.int .i64)).toArray 3 (0, 0))) : Kd.C (Kd.int .i64) w (some ⟨b, 0, none⟩) l.length l := by
  refine ⟨rfl, hl, fun _ => ⟨_, rfl, fun j p hj => ⟨[.int .i64 p], rfl, rfl, fun i u hu => ?_⟩⟩⟩
  have hi : i = 0 := by
    have := (List.getElem?_eq_some_iff.1 hu).1
    simp at this
    exact this
  subst hi
  simp at hu
  subst hu
  rw [add_plain, blk_cell h]
  show (l.map (Value.int .i64)).toArray[j * 1 + 0]? = _
  simp [hj]

/-- A Row of a literal's values that goes well. -/
theorem row_lit {w : World} {base : Nat} {P : Nat → Prop} {pv : Value} {vs : List S31} (hp : PoolR w base P pv 4096 vs) (hbase : base ≤ w.heap.size) (l : List S31) (hl : l.length * 8 ≤ 140737488355328) (hE : rowE 4096 vs l = 0) (h0 : 0 < l.length) {b n : Nat} (hb : w.heap.size = b) (hn : l.length = n) :
    Calls Try.prog 15 #[pv, .slice (some ⟨b, 0, none⟩) n n] (w.alloc (.cells (l.flatMap cells2).toArray 31)) fun e w' => ∃ g c P', e = .returned (.tuple #[.slice (some ⟨g, 0, none⟩) n c, .int .i64 0]) ∧ PoolR w' base P' pv 4096 (addAll vs l) ∧
      (∀ i : Int, 0 ≤ i → i < l.length → w'.cell? ⟨g, i.toNat, none⟩ = some (.int .i64 (rd (l.map (num (addAll vs l))) i))) ∧ Below base w w' := by
  subst hb
  subst hn
  refine (Row_any (w := w.alloc (.cells (l.flatMap cells2).toArray 31)) (hp.bound.below (below_alloc (Below.refl _ _) _)) (by simp; omega) _ l.length l (fun W hk => ?_) (Nat.le_refl _) hl).mono ?_
  · exact C_blk l (by omega) (blk_kept (blk_new w _) hk (fun h => by have := h.2.1; omega))
  · rintro e w' ⟨v0, P', h1, h2, h3, h4, h5, h6⟩
    rw [rowNs_zero hE] at h4
    rw [rowVs_zero hE] at h3
    obtain ⟨g, c, ev, _, _, _⟩ := Kd.R_form h4 (by simpa using h0)
    subst ev
    refine ⟨g, c, P', by rw [h1, hE, List.length_map], h3, fun i hi0 hi1 => ?_, ((below_alloc (Below.refl _ w) _).mono hbase).trans h5⟩
    exact (Kd.R_cell (d := (0 : Int)) h4 i hi0 (by simpa using hi1)).1

theorem New_at (w : World) : Calls Try.prog 8 #[] w fun e w' => ∃ pb P, e = .returned (.pointer (some ⟨pb, 0, none⟩)) ∧ PoolR w' w.heap.size P (.pointer (some ⟨pb, 0, none⟩)) 4096 [] ∧ Below w.heap.size w w' :=
  (New_calls w).mono (by rintro e w' ⟨pb, h1, h2, h3⟩; exact ⟨pb, _, h1, .inr ⟨pb, rfl, rfl, h2⟩, h3⟩)

set_option maxHeartbeats 1000000 in
set_option maxRecDepth 100000 in
theorem fixed_calls (w : World) : Calls Try.prog 9 #[] w fun e w' => e = .returned (.bool true) ∧ Below w.heap.size w w' := by
  go_enter Try.func9, Try.ntmps9
  go_wp2_with fail
  refine (New_at w).mono ?_
  rintro e w1 ⟨pb, P1, rfl, hp, hb⟩
  have HQ := Aside0.mk hp
  have HB := Aside0.mk hb
  clear hp hb
  go_wp2_with fail
  refine (put_at HQ.out HB.out.size va e1 n1 a1).mono ?_
  rintro e w2 ⟨P2, rfl, hp, hb⟩
  have HQ2 := Aside0.mk hp
  have HB2 := Aside0.mk (HB.out.trans hb)
  clear hp hb HQ HB
  go_wp2_with fail
  refine (put_at HQ2.out HB2.out.size v7 e2 n2 a2).mono ?_
  rintro e w3 ⟨P3, rfl, hp, hb⟩
  have HQ3 := Aside0.mk hp
  have HB3 := Aside0.mk (HB2.out.trans hb)
  clear hp hb HQ2 HB2
  go_wp2_with fail
  refine (put_at HQ3.out HB3.out.size va e3 n3 a3).mono ?_
  rintro e w4 ⟨P4, rfl, hp, hb⟩
  have HQ4 := Aside0.mk hp
  have HB4 := Aside0.mk (HB3.out.trans hb)
  clear hp hb HQ3 HB3
  go_wp2_with fail
  refine Calls.mono (by have := Get_any HQ4.out.v 1; rw [g1] at this; exact this) ?_
  rintro e w5 ⟨rfl, hb⟩
  have HQ5 := Aside0.mk (HQ4.out.below hb)
  have HB5 := Aside0.mk (below_step HB4.out hb)
  clear hb HQ4 HB4
  unfold vv v7
  go_wp2_with fail
  refine Calls.mono (Len_any (HQ5.out.v.below (below_alloc (Below.refl _ _) _))) ?_
  rintro e w6 ⟨rfl, ⟨nd, rfl⟩⟩
  have HQ6 := Aside0.mk (HQ5.out.below (pw_below_drewN (below_alloc (Below.refl _ w5) (.cells #[.string ⟨#[]⟩, .int .i64 7] 31)) nd))
  have HB6 := Aside0.mk (pw_below_drewN (below_alloc HB5.out (.cells #[.string ⟨#[]⟩, .int .i64 7] 31)) nd)
  clear HQ5 HB5
  go_wp2_with fail
  refine Calls.mono (row_lit HQ6.out HB6.out.size [v7, vb, vb] (by simp) e4 (by simp) (b := w5.heap.size + 1) (n := 3) (by simp) rfl) ?_
  rintro e w7 ⟨g, c, P7, rfl, hp, hc, hb⟩
  rw [a4] at hp hc
  have hc0 := hc 0 (by omega) (by simp)
  have hc1 := hc 1 (by omega) (by simp)
  have hc2 := hc 2 (by omega) (by simp)
  rw [n4] at hc0 hc1 hc2
  have HC := Aside0.mk (And.intro hc0 (And.intro hc1 hc2))
  have HQ7 := Aside0.mk hp
  have HB7 := Aside0.mk (HB6.out.trans hb)
  clear hp hb hc hc0 hc1 hc2 HQ6 HB6
  go_wp2_with fail
  refine Calls.mono (by have := Values_any (HQ7.out.v.below (below_alloc (Below.refl _ w7) (.cells #[.int .i64 2] 3))) (some ⟨w7.heap.size, 0, none⟩) 1 [2] (C_ints [2] (by simp) (by simpa using blk_new w7 (.cells #[.int .i64 2] 3))) (by simp) (by simp); rw [v1, v2] at this; exact this) ?_
  rintro e w8 ⟨u0, rfl, ho, hb⟩
  obtain ⟨g2, c2, eu, _, _, _⟩ := Kd.R_form ho (by simp)
  subst eu
  obtain ⟨ad, ea, hs0, _⟩ := at_T31 (Kd.R_reads' ho).2.2 0 (by omega) (by simp)
  cases ea
  have hs1 : w8.cell? ⟨g2, 0, none⟩ = some (.string ⟨#[98]⟩) := by rw [add_plain] at hs0; exact hs0
  have hb2 := below_step (below_alloc (Below.refl _ w7) (.cells #[.int .i64 2] 3)) hb
  have HC8 := Aside0.mk (And.intro (pw_cell_below hb2 HC.out.1) (And.intro (pw_cell_below hb2 HC.out.2.1) (And.intro (pw_cell_below hb2 HC.out.2.2) hs1)))
  have HQ8 := Aside0.mk (HQ7.out.below hb2)
  have HB8 := Aside0.mk (below_step HB7.out hb2)
  clear ho hb hs0 hs1 hb2 HC HQ7 HB7
  go_wp2_with fail
  refine Calls.mono (by have := Find_any HQ8.out.v vb; rw [f1] at this; exact this) ?_
  rintro e w9 ⟨rfl, hb⟩
  have d0 : w9.cell? ⟨g, 0, none⟩ = some (.int .i64 1) := pw_cell_below hb HC8.out.1
  have d1 : w9.cell? ⟨g, 1, none⟩ = some (.int .i64 2) := pw_cell_below hb HC8.out.2.1
  have d2 : w9.cell? ⟨g, 2, none⟩ = some (.int .i64 2) := pw_cell_below hb HC8.out.2.2.1
  have d3 : w9.cell? ⟨g2, 0, none⟩ = some (.string ⟨#[98]⟩) := pw_cell_below hb HC8.out.2.2.2
  have HQ9 := Aside0.mk (HQ8.out.below hb)
  have HB9 := Aside0.mk (below_step HB8.out hb)
  clear hb HC8 HQ8 HB8
  go_wp2_with fail
  refine (Clear_any HQ9.out HB9.out.size).mono ?_
  rintro e wa ⟨rfl, hp, hk, hb⟩
  have HQa := Aside0.mk hp
  have HBa := Aside0.mk (HB9.out.trans hb)
  clear hp hk hb d0 d1 d2 d3 HQ9 HB9
  go_wp2_with fail
  refine (Len_any HQa.out.v).mono ?_
  rintro e wb ⟨rfl, ⟨nd2, rfl⟩⟩
  go_wp2_with fail
  go_ret
  exact ⟨rfl, pw_below_drewN HBa.out _⟩

end Go.Proofs.Ytjkicljcmognhaa.PInternPlays
