/- InternPlays' steps: the pool and the reference's list side by side. No condition beyond those each theorem names. -/
import Derived.Test.YtjkicljcmognhaaOps
import Derived.Test.YtjkicljcmognhaaRefW
namespace Go.Proofs.Ytjkicljcmognhaa.PInternPlays
open Go.RowKit Go.Proofs.YtjkicljcmognhaaW.PrintWords Go.Proofs.YtjkicljcmognhaaW.PrintLast Go.Proofs.YtjkicljcmognhaaW.PrintMore
set_option linter.unusedVariables false
set_option linter.unusedSimpArgs false

/-- The pool and the reference's list, side by side. -/
def Side (w wr : World) (pv hv : Value) (vs : List S31) : Prop :=
  ∃ P H : Nat → Prop, PoolR wr w.heap.size P pv 4096 vs ∧ Kd.R k31 31 wr w.heap.size H hv vs ∧ (∀ k, P k → ¬ H k) ∧ (∀ k, P k → k < wr.heap.size) ∧ (∀ k, H k → w.heap.size ≤ k ∧ k < wr.heap.size) ∧ vs.length ≤ 4096 ∧ Below w.heap.size w wr
theorem side_of {w wr : World} {P H : Nat → Prop} {pv hv : Value} {vs : List S31} (hp : PoolR wr w.heap.size P pv 4096 vs) (hh : Kd.R k31 31 wr w.heap.size H hv vs) (hd : ∀ k, P k → k < wr.heap.size → w.heap.size ≤ k → ¬ H k) (hb : Below w.heap.size w wr) : Side w wr pv hv vs :=
  ⟨_, _, hp.bound, Kd.R_bound hh, fun k h h' => hd k h.1 h.2.1 h.2.2 h'.1, fun k h => h.2.1, fun k h => ⟨h.2.1, h.2.2.1⟩, hp.room, hb⟩
/-- The same, later, nothing of it touched. -/
theorem Side.below {w wr wd : World} {pv hv : Value} {vs : List S31} (h : Side w wr pv hv vs) (hb : Below wr.heap.size wr wd) : Side w wd pv hv vs := by
  obtain ⟨P, H, hp, hh, hd, hpl, hhl, hvl, hbl⟩ := h
  exact side_of (hp.below hb) (Kd.R_below hh hb) (fun k h1 _ _ => hd k h1) (below_step hbl hb)

/-- The call and its first value, boxed. -/
def Boxes (wc : World) (g : Nat) (x : S29) (v : S31) (A2 : Option Addr) (c2 : Nat) (A3 : Option Addr) (c3 : Nat) : Prop := wc.heap[g]? = some (.cells #[.int .i64 x.f0, .int .i64 x.f1, .slice A2 x.f2.length c2, .slice A3 x.f3.length c3] 29 (0, 0)) ∧ wc.heap[g + 1]? = some (.cells #[.string v.f0, .int .i64 v.f1] 31 (0, 0))
section
variable {wc wd : World} {g : Nat} {x : S29} {v : S31} {A2 : Option Addr} {c2 : Nat} {A3 : Option Addr} {c3 : Nat}
theorem Boxes.cells (h : Boxes wc g x v A2 c2 A3 c3) : wc.cell? ⟨g, 0, none⟩ = some (.int .i64 x.f0) ∧ wc.cell? ⟨g, 1, none⟩ = some (.int .i64 x.f1) ∧ wc.cell? ⟨g, 2, none⟩ = some (.slice A2 x.f2.length c2) ∧ wc.cell? ⟨g, 3, none⟩ = some (.slice A3 x.f3.length c3) ∧ wc.cell? ⟨g + 1, 0, none⟩ = some (.string v.f0) ∧ wc.cell? ⟨g + 1, 1, none⟩ = some (.int .i64 v.f1) :=
  ⟨blk_cell h.1 0, blk_cell h.1 1, blk_cell h.1 2, blk_cell h.1 3, blk_cell h.2 0, blk_cell h.2 1⟩
theorem Boxes.kept {S : Nat → Prop} (h : Boxes wc g x v A2 c2 A3 c3) (hk : Kept wc wd S) (hs : ∀ k, S k → k < g) : Boxes wd g x v A2 c2 A3 c3 :=
  ⟨blk_kept h.1 hk (fun h => by have := hs _ h; omega), blk_kept h.2 hk (fun h => by have := hs _ h; omega)⟩
theorem Boxes.below (h : Boxes wc g x v A2 c2 A3 c3) (hb : Below wc.heap.size wc wd) : Boxes wd g x v A2 c2 A3 c3 := ⟨blk_below h.1 hb, blk_below h.2 hb⟩
theorem Boxes.lt (h : Boxes wc g x v A2 c2 A3 c3) : g + 1 < wc.heap.size := blk_lt h.2
end

theorem boxes_two (w : World) (x : S29) (v : S31) (A2 : Option Addr) (c2 : Nat) (A3 : Option Addr) (c3 : Nat) : Boxes ((w.alloc (.cells #[.int .i64 x.f0, .int .i64 x.f1, .slice A2 x.f2.length c2, .slice A3 x.f3.length c3] 29)).alloc (.cells #[.string v.f0, .int .i64 v.f1] 31)) w.heap.size x v A2 c2 A3 c3 :=
  ⟨blk_alloc (blk_new w _) _, by have := blk_new (w.alloc (.cells #[.int .i64 x.f0, .int .i64 x.f1, .slice A2 x.f2.length c2, .slice A3 x.f3.length c3] 29)) (.cells #[.string v.f0, .int .i64 v.f1] 31); simpa using this⟩

/-- What stands at a case's head. g: the world's size ahead of the round. -/
def Now (w : World) (g : Nat) (wc : World) (pv : Value) (Ah : Option Addr) (ch : Nat) (vs : List S31) (P H : Nat → Prop) : Prop :=
  PoolR wc w.heap.size P pv 4096 vs ∧ Kd.R k31 31 wc w.heap.size H (.slice Ah vs.length ch) vs ∧ (∀ k, P k → ¬ H k) ∧ (∀ k, P k → k < g) ∧ (∀ k, H k → w.heap.size ≤ k ∧ k < g) ∧ vs.length ≤ 4096 ∧ Below w.heap.size w wc ∧ g ≤ wc.heap.size

theorem Now.below {w wc wd : World} {g : Nat} {pv : Value} {Ah : Option Addr} {ch : Nat} {vs : List S31} {P H : Nat → Prop} (h : Now w g wc pv Ah ch vs P H) (hb : Below wc.heap.size wc wd) : Now w g wd pv Ah ch vs P H := by
  obtain ⟨hp, hh, hd, hpl, hhl, hvl, hbw, hsz⟩ := h
  exact ⟨hp.below hb, Kd.R_below hh hb, hd, hpl, hhl, hvl, below_step hbw hb, Nat.le_trans hsz hb.size⟩
theorem which {q : Int} (h0 : 0 ≤ q) (h6 : q < 6) : q = 0 ∨ q = 1 ∨ q = 2 ∨ q = 3 ∨ q = 4 ∨ q = 5 := by omega
theorem kind_in (n : Int) : 0 ≤ (wrap64 (n.tmod 6 + 6)).tmod 6 ∧ (wrap64 (n.tmod 6 + 6)).tmod 6 < 6 := by
  have h1 : -6 < n.tmod 6 ∧ n.tmod 6 < 6 := ⟨Int.lt_tmod_of_pos n (by omega), Int.tmod_lt_of_pos n (by omega)⟩
  have e : wrap64 (n.tmod 6 + 6) = n.tmod 6 + 6 := by unfold wrap64; omega
  rw [e, Int.tmod_eq_emod_of_nonneg (by omega)]
  omega

/-- A Put, either way, and the reference's Row beside it. -/
theorem put_both {w : World} {base : Nat} {P : Nat → Prop} {pv : Value} {vs : List S31} (hp : PoolR w base P pv 4096 vs) (hbase : base ≤ w.heap.size) (v : S31) :
    (Calls Try.prog 10 #[pv, .agg #[.string v.f0, .int .i64 v.f1]] w (fun e w' => ∃ P', e = .returned (.tuple #[.int .i64 (num (addOne vs v) v), .int .i64 0]) ∧ (∀ k, P' k → P k ∨ w.heap.size ≤ k) ∧ PoolR w' base P' pv 4096 (addOne vs v) ∧ Below base w w' ∧ Kept w w' P) ∧ rowF vs [v] = (addOne vs v, [num (addOne vs v) v], 0)) ∨
    ∃ er : Int, (er = 1 ∨ er = 3) ∧ Calls Try.prog 10 #[pv, .agg #[.string v.f0, .int .i64 v.f1]] w (fun e w' => ∃ P', e = .returned (.tuple #[.int .i64 0, .int .i64 er]) ∧ (∀ k, P' k → P k ∨ w.heap.size ≤ k) ∧ PoolR w' base P' pv 4096 vs ∧ Below base w w' ∧ Kept w w' P) ∧ rowF vs [v] = (vs, [], er) := by
  have hrow : rowF vs [v] = (rowVs 4096 vs [v], rowNs 4096 vs [v], rowE 4096 vs [v]) := rfl
  have hc : Calls Try.prog 10 #[pv, .agg #[.string v.f0, .int .i64 v.f1]] w (PutPost w base P pv 4096 vs v) := Put_any hp hbase v
  by_cases hE : rowE 4096 vs [v] = 0
  · refine .inl ⟨hc.mono ?_, ?_⟩
    · rintro e w' ⟨P', h1, h2, h3, h4, h5⟩
      rw [rowVs_zero hE] at h3
      unfold putN at h1
      rw [hE, if_pos rfl] at h1
      exact ⟨P', h1, h2, h3, h4, h5⟩
    · rw [rowVs_zero hE, rowNs_zero hE, hE] at hrow
      exact hrow
  · have hcs := rowE_cases 4096 vs [v]
    obtain ⟨er, her⟩ : ∃ er, er = rowE 4096 vs [v] := ⟨_, rfl⟩
    refine .inr ⟨er, by rw [her]; omega, hc.mono ?_, ?_⟩
    · rintro e w' ⟨P', h1, h2, h3, h4, h5⟩
      unfold rowVs at h3
      rw [if_neg hE] at h3
      unfold putN at h1
      rw [if_neg hE, ← her] at h1
      exact ⟨P', h1, h2, h3, h4, h5⟩
    · unfold rowVs rowNs at hrow
      rw [if_neg hE, if_neg hE, ← her] at hrow
      exact hrow

/-- The reference's Row of one value. -/
theorem ref_one {w w2 : World} {H : Nat → Prop} {Ah : Option Addr} {ch : Nat} {vs : List S31} (v : S31) {r1 : List S31} {r2 : List Int} {r3 : Int} {b : Nat} (hb : w2.heap.size = b) (hB : Below w.heap.size w w2) (hh : Kd.R k31 31 w2 w.heap.size H (.slice Ah vs.length ch) vs) (hH : ∀ k, H k → k < w2.heap.size) (hvl : vs.length ≤ 4096) (hrow : rowF vs [v] = (r1, r2, r3)) :
    Calls Try.prog 11 #[.slice Ah vs.length ch, .slice (some ⟨b, 0, none⟩) 1 1] (w2.alloc (.cells #[.string v.f0, .int .i64 v.f1] 31)) fun e w' => ∃ v0 v1 : Value, e = .returned (.tuple #[v0, v1, .int .i64 r3]) ∧ Kd.R k31 31 w' w.heap.size (fun k => H k ∨ w2.heap.size ≤ k) v0 r1 ∧ Kd.R (Kd.int .i64) 3 w' w.heap.size (fun k => H k ∨ w2.heap.size ≤ k) v1 r2 ∧ Below w.heap.size w w' ∧ Kept w2 w' H := by
  subst hb
  refine (refRow_calls H (.slice Ah vs.length ch) vs (some ⟨w2.heap.size, 0, none⟩) 1 [v] r1 r2 r3 w (w2.alloc (.cells #[.string v.f0, .int .i64 v.f1] 31)) (below_alloc hB _) (Kd.R_alloc hh _) (fun W hk => ?_) (by simp) hvl (by simp) hrow).mono ?_
  · refine C_blk [v] (by simp) ?_
    have := blk_kept (blk_new w2 (.cells #[.string v.f0, .int .i64 v.f1] 31)) hk (fun h => by have := hH _ h; omega)
    simpa [cells2] using this
  · rintro e w' ⟨v0, v1, h1, h2, h3, h4, h5⟩
    have hsz : w2.heap.size ≤ (w2.alloc (.cells #[.string v.f0, .int .i64 v.f1] 31)).heap.size := by simp
    refine ⟨v0, v1, h1, Kd.R_mono h2 (fun k hk => hk.imp id (fun h => Nat.le_trans hsz h)), Kd.R_mono h3 (fun k hk => hk.imp id (fun h => Nat.le_trans hsz h)), h4, ((Kept.refl w2 H).alloc _).then_ h5 (fun k hk => .inl hk)⟩

/-- What stands behind a Put and the reference's Row of it. -/
theorem side_put {w wc w2 w3 : World} {g : Nat} {pv v0 : Value} {Ah : Option Addr} {ch : Nat} {vs r1 : List S31} {P H P2 : Nat → Prop} (hn : Now w g wc pv Ah ch vs P H) (h2 : ∀ k, P2 k → P k ∨ wc.heap.size ≤ k) (hp : PoolR w2 w.heap.size P2 pv 4096 r1) (hk : Kept w2 w3 H) (hR : Kd.R k31 31 w3 w.heap.size (fun k => H k ∨ w2.heap.size ≤ k) v0 r1) (hB : Below w.heap.size w w3) : Side w w3 pv v0 r1 := by
  obtain ⟨_, _, hd, hpl, hhl, _, _, hsz⟩ := hn
  have hnot : ∀ k, P2 k → ¬ H k := fun k h h' => by
    rcases h2 k h with h1 | h1
    · exact hd k h1 h'
    · have := (hhl k h').2; omega
  refine side_of (hp.bound.step (fun k h1 h2 => hk.2 k h2 (hnot k h1.1))) hR (fun k h1 _ _ h' => ?_) hB
  rcases h' with h' | h'
  · exact hnot k h1.1 h'
  · have := h1.2.1; omega

end Go.Proofs.Ytjkicljcmognhaa.PInternPlays
