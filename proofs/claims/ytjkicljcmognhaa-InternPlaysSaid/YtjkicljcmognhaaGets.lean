/- What Get and Values of a pool answer. No condition beyond those each theorem names. -/
import Derived.Test.YtjkicljcmognhaaPool
namespace Go.Proofs.Ytjkicljcmognhaa.PInternPlays
open Go.RowKit Go.Proofs.YtjkicljcmognhaaW.PrintWords Go.Proofs.YtjkicljcmognhaaW.PrintLast Go.Proofs.YtjkicljcmognhaaW.PrintMore
set_option linter.unusedVariables false
set_option linter.unusedSimpArgs false

/-- The value of a number, and whether there is one. -/
def getV (vs : List S31) (n : Int) : S31 × Bool := if 0 ≤ n ∧ n < vs.length then (rd_T31 vs n, true) else (z31, false)

set_option maxHeartbeats 1000000 in
theorem Get_nil (w : World) (n : Int) : Calls Try.prog 14 #[.pointer none, .int .i64 n] w fun e w' => e = .returned (.tuple #[vv z31, .bool false]) ∧ Below w.heap.size w w' := by
  unfold vv z31
  by_cases h0 : n < 0
  · have hd : decide (n < 0) = true := decide_eq_true h0
    go_enter Try.func14, Try.ntmps14
    go_wp2
    refine bodyPost_ret (v := .tuple #[.agg #[.string (⟨#[]⟩ : ByteArray), .int .i64 0], .bool false]) (by simp [results, Try.results14, go_sem]) rfl ⟨rfl, ?_⟩
    exact below_alloc (Below.refl _ _) _
  · have hd : decide (n < 0) = false := decide_eq_false h0
    have hd2 : decide (0 ≤ n) = true := decide_eq_true (by omega)
    go_enter Try.func14, Try.ntmps14
    go_wp2_with (go_at_call 20; refine (Len_nil _).mono ?_; rintro e w' ⟨rfl, ⟨nd, rfl⟩⟩)
    refine bodyPost_ret (v := .tuple #[.agg #[.string (⟨#[]⟩ : ByteArray), .int .i64 0], .bool false]) (by simp [results, Try.results14, go_sem]) rfl ⟨rfl, ?_⟩
    exact ((pw_below_drewN (below_alloc (Below.refl _ _) _) _).setCell (p := ⟨w.heap.size, 0, none⟩) (Nat.le_refl _) _).setCell (p := ⟨w.heap.size, 1, none⟩) (Nat.le_refl _) _

set_option maxHeartbeats 1000000 in
theorem Get_calls {w : World} {base : Nat} {P : Nat → Prop} {pb : Nat} {vs : List S31} (hp : PoolAt w base P pb vs) (n : Int) : Calls Try.prog 14 #[.pointer (some ⟨pb, 0, none⟩), .int .i64 n] w fun e w' => e = .returned (.tuple #[vv (getV vs n).1, .bool (getV vs n).2]) ∧ Below w.heap.size w w' := by
  have HP := Aside0.mk hp
  clear hp
  by_cases h0 : n < 0
  · have hd : decide (n < 0) = true := decide_eq_true h0
    have hg : getV vs n = (z31, false) := by unfold getV; rw [if_neg (by omega)]
    rw [hg]
    clear hg
    unfold vv z31
    go_enter Try.func14, Try.ntmps14
    go_wp2
    refine bodyPost_ret (v := .tuple #[.agg #[.string (⟨#[]⟩ : ByteArray), .int .i64 0], .bool false]) (by simp [results, Try.results14, go_sem]) rfl ⟨rfl, ?_⟩
    exact below_alloc (Below.refl _ _) _
  · have hd : decide (n < 0) = false := decide_eq_false h0
    have hd1 : 0 ≤ n := by omega
    by_cases h1 : n < vs.length
    · have hg : getV vs n = (rd_T31 vs n, true) := by unfold getV; rw [if_pos ⟨by omega, h1⟩]
      rw [hg]
      clear hg
      have hd3 : decide ((vs.length : Int) ≤ n) = false := decide_eq_false (by omega)
      have hd4 : decide (n < (vs.length : Int)) = true := decide_eq_true h1
      obtain ⟨mb, rv, b1, b2, b3, b4, b5, b6, b7, b8⟩ := HP.out
      obtain ⟨A, c, rfl⟩ := Kd.R_slice b7
      have hc := (Kd.R_reads' b7).2.1
      obtain ⟨ad, rfl, r0, r1⟩ := at_T31 (Kd.R_reads' b7).2.2 n (by omega) h1
      have c0 : w.cell? ⟨pb, 1, none⟩ = some (.slice (some ad) vs.length c) := blk_cell b1 1
      have c0' := pw_cell_below (below_alloc (Below.refl _ w) (.cells #[.string ⟨#[]⟩, .int .i64 0] 31)) c0
      have r0' := pw_cell_below (below_alloc (Below.refl _ w) (.cells #[.string ⟨#[]⟩, .int .i64 0] 31)) r0
      have r1' := pw_cell_below (below_alloc (Below.refl _ w) (.cells #[.string ⟨#[]⟩, .int .i64 0] 31)) r1
      clear c0 r0 r1 b1 b2 b3 b4 b5 b6 b7 b8 h0
      unfold vv
      go_enter Try.func14, Try.ntmps14
      go_wp2_with (go_at_call 20; refine (Len_calls (HP.out.alloc _)).mono ?_; rintro e w' ⟨rfl, ⟨nd, rfl⟩⟩)
      refine bodyPost_ret (v := .tuple #[.agg #[.string (rd_T31 vs n).f0, .int .i64 (rd_T31 vs n).f1], .bool true]) (by simp [results, Try.results14, go_sem]) rfl ⟨rfl, ?_⟩
      exact ((pw_below_drewN (below_alloc (Below.refl _ _) _) _).setCell (p := ⟨w.heap.size, 0, none⟩) (Nat.le_refl _) _).setCell (p := ⟨w.heap.size, 1, none⟩) (Nat.le_refl _) _
    · have hg : getV vs n = (z31, false) := by unfold getV; rw [if_neg (by omega)]
      rw [hg]
      clear hg
      unfold vv z31
      have hd3 : decide ((vs.length : Int) ≤ n) = true := decide_eq_true (by omega)
      have hd4 : decide (n < (vs.length : Int)) = false := decide_eq_false h1
      go_enter Try.func14, Try.ntmps14
      go_wp2_with (go_at_call 20; refine (Len_calls (HP.out.alloc _)).mono ?_; rintro e w' ⟨rfl, ⟨nd, rfl⟩⟩)
      refine bodyPost_ret (v := .tuple #[.agg #[.string (⟨#[]⟩ : ByteArray), .int .i64 0], .bool false]) (by simp [results, Try.results14, go_sem]) rfl ⟨rfl, ?_⟩
      exact ((pw_below_drewN (below_alloc (Below.refl _ _) _) _).setCell (p := ⟨w.heap.size, 0, none⟩) (Nat.le_refl _) _).setCell (p := ⟨w.heap.size, 1, none⟩) (Nat.le_refl _) _

/-- A pool, or nil. -/
def PoolV (w : World) (base : Nat) (P : Nat → Prop) (pv : Value) (vs : List S31) : Prop :=
  (pv = .pointer none ∧ vs = []) ∨ ∃ pb, pv = .pointer (some ⟨pb, 0, none⟩) ∧ PoolAt w base P pb vs
theorem PoolV.below {w w' : World} {base : Nat} {P : Nat → Prop} {pv : Value} {vs : List S31} (h : PoolV w base P pv vs) (hb : Below w.heap.size w w') : PoolV w' base P pv vs := by
  rcases h with h | ⟨pb, h1, h2⟩
  · exact .inl h
  · exact .inr ⟨pb, h1, h2.below hb⟩
theorem Len_any {w : World} {base : Nat} {P : Nat → Prop} {pv : Value} {vs : List S31} (hp : PoolV w base P pv vs) : Calls Try.prog 20 #[pv] w fun e w' => e = .returned (.int .i64 vs.length) ∧ Drawn0 w w' := by
  rcases hp with ⟨rfl, rfl⟩ | ⟨pb, rfl, h2⟩
  · exact Len_nil w
  · exact Len_calls h2
theorem Find_any {w : World} {base : Nat} {P : Nat → Prop} {pv : Value} {vs : List S31} (hp : PoolV w base P pv vs) (v : S31) : Calls Try.prog 12 #[pv, vv v] w fun e w' => e = .returned (.tuple #[.int .i64 (((idx vs v).map fun j => (j : Int)).getD 0), .bool (idx vs v).isSome]) ∧ Below w.heap.size w w' := by
  rcases hp with ⟨rfl, rfl⟩ | ⟨pb, rfl, h2⟩
  · exact Find_nil w v
  · exact Find_calls h2 v
theorem Get_any {w : World} {base : Nat} {P : Nat → Prop} {pv : Value} {vs : List S31} (hp : PoolV w base P pv vs) (n : Int) : Calls Try.prog 14 #[pv, .int .i64 n] w fun e w' => e = .returned (.tuple #[vv (getV vs n).1, .bool (getV vs n).2]) ∧ Below w.heap.size w w' := by
  rcases hp with ⟨rfl, rfl⟩ | ⟨pb, rfl, h2⟩
  · have : getV [] n = (z31, false) := by unfold getV; rw [if_neg (by simp)]
    rw [this]
    exact Get_nil w n
  · exact Get_calls h2 n

/-- Has each of these numbers a value? -/
def allIn (vs : List S31) (l : List Int) : Bool := l.all fun n => decide (0 ≤ n ∧ n < vs.length)

/-- Their values, if each has one. -/
def valsOf (vs : List S31) (l : List Int) : List S31 := if allIn vs l = true then l.map (rd_T31 vs) else []

theorem R_empty {α : Type} {d : Kd α} {e base : Nat} {ok : Nat → Prop} {w : World} {v : Value} (h : w.ownsRow base e d.sz v 0 []) (hok : ∀ k, v.ownBlock = some k → ok k) : d.R e w base ok v [] := ⟨hok, [], h, Reps.none _ _⟩

set_option maxHeartbeats 2000000 in
theorem Values_any {w : World} {base : Nat} {P : Nat → Prop} {pv : Value} {vs : List S31} (hp : PoolV w base P pv vs) (A : Option Addr) (c : Nat) (l : List Int) (hl : Kd.C (Kd.int .i64) w A l.length l) (hc : l.length ≤ c) (hn : l.length * 24 ≤ 140737488355328) :
    Calls Try.prog 17 #[pv, .slice A l.length c] w fun e w' => ∃ v0, e = .returned (.tuple #[v0, .bool (allIn vs l)]) ∧ Kd.R k31 31 w' w.heap.size (fun k => w.heap.size ≤ k) v0 (valsOf vs l) ∧ Below w.heap.size w w' := by
  have HP := Aside0.mk hp
  have HL := Aside0.mk hl
  have HC := Aside0.mk hc
  have HN := Aside0.mk hn
  clear hp hl hc hn
  obtain ⟨i0, hi, hzz⟩ := Option.map_eq_some_iff.1 info31
  simp only [Prod.mk.injEq] at hzz
  obtain ⟨hz0, hz1, hz2⟩ := hzz
  have HI := Aside0.mk hi
  have HZ0 := Aside0.mk hz0
  have HZ1 := Aside0.mk hz1
  have HZ2 := Aside0.mk hz2
  clear hi hz0 hz1 hz2
  go_enter Try.func17, Try.ntmps17
  go_wp2_with (at_make; refine wpList_make_own _ rfl _ _ 26 rfl w.heap.size 31 i0 (.agg #[.string ⟨#[]⟩, .int .i64 0]) 2 Try.underlying26 HI.out HZ0.out HZ1.out .i64 .i64 _ l.length rfl rfl rfl (by rw [HZ2.out]; have := HN.out; omega) (by have := HN.out; unfold maxLen; omega) (Nat.le_refl _) ?_; intro w1 hown1 hg1; have HO := Aside0.mk (show Kd.R k31 31 w1 w.heap.size (fun k => w.heap.size ≤ k) _ ([] : List S31) from R_empty hown1 (fun k hk => by simp [Value.ownBlock] at hk; omega)); have HB := Aside0.mk (show Below w.heap.size w w1 from ⟨hg1.os, hg1.tape, hg1.output, hg1.size, fun k hk => hg1.block k hk (by simp)⟩); clear hown1 hg1)
  go_loopw [6, 16] (fun v6 v16 wr => ∃ (i : Nat) (xs : List S31), i ≤ l.length ∧ v16 = .int .i64 i ∧ Aside0 (allIn vs (l.take i) = true ∧ xs = (l.take i).map (rd_T31 vs)) ∧ Aside0 (Kd.R k31 31 wr w.heap.size (fun k => w.heap.size ≤ k) v6 xs) ∧ Aside0 (Below w.heap.size w wr)) (fun _ v16 _ => l.length - (intOf v16).toNat)
  case atStart => exact ⟨0, [], by omega, by simp, ⟨by simp [allIn]⟩, HO, HB⟩
  case round =>
    clear HO HB
    obtain ⟨i, xs, hil, rfl, HA, HO, HB⟩ := hrel
    by_cases hlt : i < l.length
    · obtain ⟨ad, e, hx⟩ := Kd.at_int (Kd.C_below HL.out HB.out) (i : Int) (by omega) (by omega)
      cases e
      simp only [Int.toNat_natCast] at hx
      have hd : decide ((i : Int) < (l.length : Int)) = true := decide_eq_true (by omega)
      have hnn := HN.out
      obtain ⟨n, hne⟩ : ∃ n, n = rd l (i : Int) := ⟨_, rfl⟩
      rw [← hne] at hx
      have hln : l[i]? = some n := by rw [hne]; simp [rd, hlt]
      have htk : l.take (i + 1) = l.take i ++ [n] := by rw [List.take_add_one, hln]; rfl
      have HT := Aside0.mk htk
      clear hne hln htk
      by_cases hr : 0 ≤ n ∧ n < vs.length
      · have hg : getV vs n = (rd_T31 vs n, true) := by unfold getV; rw [if_pos hr]
        have HG := Aside0.mk hg
        clear hg
        have HR := Aside0.mk hr
        clear hr
        obtain ⟨Ao, co, eo⟩ := Kd.R_slice HO.out
        subst eo
        have HX := Aside0.mk (show xs.length < l.length by rw [HA.out.2]; simp; omega)
        go_wp2_with (first | (go_at_call 14; refine Calls.mono (by have := Get_any (HP.out.below HB.out) n; rw [HG.out] at this; unfold vv at this; exact this) ?_; rintro e w2 ⟨rfl, hb⟩; have HO2 := Aside0.mk (Kd.R_below HO.out hb); have HB2 := Aside0.mk (below_step HB.out hb); clear hb) | (at_builtin; refine Kd.R_append k31 (w0 := w) w.heap.size rfl (.tmp 28) (.tmp 30) 26 31 (.agg #[(.string ⟨#[]⟩), (.int .i64 0)]) 24 rfl Try.underlying26 info31 rfl (by decide) (by omega) (.slice Ao xs.length co) xs (rd_T31 vs n) [.string (rd_T31 vs n).f0, .int .i64 (rd_T31 vs n).f1] (fun k => w.heap.size ≤ k) (fun _ => False) rfl ?aX (k31_mkM _ _ _ (rd_T31 vs n)) (fun _ hk => hk.elim) ?aF ?aO ?aB ?aS ?aL ?_; (case aX => first | rfl | (simp [Act.eval]; done)); (case aO => exact Kd.R_alloc HO2.out _); (case aB => exact below_alloc HB2.out _); (case aS => exact below_size (below_alloc HB2.out _)); (case aF => exact (fun k hk => Nat.le_trans (below_size (below_alloc HB2.out _)) hk)); (case aL => have := HN.out; have := HX.out; omega); intro v3 w3 ho hb hg hat; have HO3 := Aside0.mk ho; have HB3 := Aside0.mk hb; clear ho hb hg hat))
        go_roundw
        case measure => simp [intOf]; omega
        case rel =>
          refine ⟨i + 1, xs ++ [rd_T31 vs n], by omega, by go_num, ⟨?_, ?_⟩, HO3, HB3⟩
          · rw [HT.out]
            have := HA.out.1
            unfold allIn at *
            rw [List.all_append, this]
            simpa using HR.out
          · rw [HT.out, HA.out.2]
            simp
      · have hg : getV vs n = (z31, false) := by unfold getV; rw [if_neg hr]
        have HG := Aside0.mk hg
        clear hg
        have hall : allIn vs l = false := by
          unfold allIn
          rw [List.all_eq_false]
          refine ⟨n, List.mem_of_mem_take (i := i + 1) (by rw [HT.out]; simp), by simpa using hr⟩
        have HALL := Aside0.mk hall
        clear hall hr
        go_wp2_with (go_at_call 14; refine Calls.mono (by have := Get_any (HP.out.below HB.out) n; rw [HG.out] at this; unfold vv z31 at this; exact this) ?_; rintro e w2 ⟨rfl, hb⟩; have HB2 := Aside0.mk (below_step HB.out hb); clear hb)
        go_ret2
        exact ⟨_, by rw [HALL.out]; rfl, by rw [valsOf, HALL.out]; exact Kd.R_nil _ _ _ _ _, below_alloc HB2.out _⟩
    · have hd : decide ((i : Int) < (l.length : Int)) = false := decide_eq_false (by omega)
      have e1 : l.take i = l := List.take_of_length_le (by omega)
      have hall : allIn vs l = true := by have := HA.out.1; rwa [e1] at this
      have hxs : xs = l.map (rd_T31 vs) := by have := HA.out.2; rwa [e1] at this
      have HALL := Aside0.mk hall
      have HXS := Aside0.mk hxs
      clear e1 hall hxs
      go_wp2
      go_ret2
      exact ⟨_, by rw [HALL.out]; rfl, by rw [valsOf, HALL.out, if_pos rfl, ← HXS.out]; exact HO.out, HB.out⟩

end Go.Proofs.Ytjkicljcmognhaa.PInternPlays
