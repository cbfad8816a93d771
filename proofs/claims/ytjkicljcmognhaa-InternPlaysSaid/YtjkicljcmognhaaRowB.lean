/- What a pool's Row answers. No condition beyond those each theorem names. -/
import Derived.Test.YtjkicljcmognhaaRowA
import Derived.Deep.DeepCutAuto
import Derived.Outline
import Derived.Deep.RegionLaw
namespace Go.Proofs.Ytjkicljcmognhaa.PInternPlays
open Go.RowKit Go.Proofs.YtjkicljcmognhaaW.PrintWords Go.Proofs.YtjkicljcmognhaaW.PrintLast Go.Proofs.YtjkicljcmognhaaW.PrintMore
set_option linter.unusedVariables false
set_option linter.unusedSimpArgs false

set_option maxHeartbeats 4000000 in
set_option maxRecDepth 100000 in
theorem Row_any {w : World} {base : Nat} {P : Nat → Prop} {pv : Value} {room : Nat} {vs : List S31} (hp : PoolR w base P pv room vs) (hbase : base ≤ w.heap.size) (A : Option Addr) (c : Nat) (l : List S31) (hl : ∀ W, Kept w W P → Kd.C k31 W A l.length l) (hc : l.length ≤ c) (hn : l.length * 8 ≤ 140737488355328) :
    Calls Try.prog 15 #[pv, .slice A l.length c] w (RowPost w base P pv room vs l) := by
  have HP := Aside0.mk hp
  have HBS := Aside0.mk hbase
  have HL := Aside0.mk hl
  have HC := Aside0.mk hc
  have HN := Aside0.mk hn
  clear hp hl hc hn hbase
  have hmm := @run_makeMap Try.prog
  go_enter Try.func15, Try.ntmps15
  go_wp2
  have HB := Aside0.mk (below_alloc (Below.refl _ w) (.map #[] 0))
  have HM := Aside0.mk (MapIs.made w)
  obtain ⟨W0, hW0⟩ : ∃ W0, W0 = w.alloc (.map #[] 0) := ⟨_, rfl⟩
  rw [← hW0] at HB HM ⊢
  clear hW0 hmm
  go_loopw [19] (fun v19 wr => ∃ (i : Nat) (fl : List (S31 × Int)), i ≤ l.length ∧ v19 = .int .i64 i ∧ Aside0 ((∀ x ∈ l.take i, goodV x = true) ∧ vs ++ fl.map (·.1) = addAll vs (l.take i)) ∧ Aside0 (MapIs wr w.heap.size fl) ∧ Aside0 (Below w.heap.size w wr)) (fun v19 _ => l.length - (intOf v19).toNat)
  case atStart => exact ⟨0, [], by omega, by simp, ⟨by simp [addAll]⟩, HM, HB⟩
  case round =>
    clear HB HM
    obtain ⟨i, fl, hil, rfl, HA, HM, HB⟩ := hrel
    by_cases hlt : i < l.length
    · obtain ⟨ad, e, hx0, hx1⟩ := at_T31 (HL.out _ (Kept.of_below HB.out P)) (i : Int) (by omega) (by omega)
      cases e
      simp only [Int.toNat_natCast] at hx0 hx1
      have hd : decide ((i : Int) < (l.length : Int)) = true := decide_eq_true (by omega)
      have hnn := HN.out
      obtain ⟨x, hne⟩ : ∃ x, x = rd_T31 l (i : Int) := ⟨_, rfl⟩
      rw [← hne] at hx0 hx1
      have hln : l[i]? = some x := by rw [hne]; simp [rd_T31, hlt]
      have htk : l.take (i + 1) = l.take i ++ [x] := by rw [List.take_add_one, hln]; rfl
      have HT := Aside0.mk htk
      have HX := Aside0.mk (show x ∈ l from List.mem_of_getElem? hln)
      clear hne hln htk
      cases hg : goodV x with
      | false =>
        have HG := Aside0.mk hg
        clear hg
        go_wp2_with (go_at_call 22; refine Calls.mono (by have := Good_calls x (wr.alloc (.cells #[.string x.f0, .int .i64 x.f1] 31)); rw [HG.out] at this; exact this) ?_; rintro e w2 ⟨rfl, hb⟩; have HB2 := Aside0.mk (below_step (below_alloc HB.out _) hb); clear hb)
        go_ret2
        have h1 : rowE room vs l = 1 := by
          unfold rowE
          rw [if_pos]
          rw [List.all_eq_false]
          exact ⟨x, HX.out, by rw [HG.out]; simp⟩
        exact RowPost.bad HP.out HBS.out HB2.out (by rw [h1]) (by rw [h1]; decide) rfl
      | true =>
        have HG := Aside0.mk hg
        clear hg
        by_cases hi : x ∈ vs
        · have hix : (idx vs x).isSome = true := by
            cases h : idx vs x with
            | none => exact absurd hi (idx_none.1 h)
            | some j => rfl
          have HIX := Aside0.mk hix
          have HI := Aside0.mk hi
          clear hix hi
          go_wp2_with (first | (go_at_call 22; refine Calls.mono (by have := Good_calls x (wr.alloc (.cells #[.string x.f0, .int .i64 x.f1] 31)); rw [HG.out] at this; exact this) ?_; rintro e w2 ⟨rfl, hb⟩; have HB2 := Aside0.mk (below_step (below_alloc HB.out _) hb); have HM2 := Aside0.mk ((HM.out.move (Below.heap_alloc _ (.cells #[.string x.f0, .int .i64 x.f1] 31) _ HM.out.lt)).move (hb.block _ (by have := HM.out.lt; simp; omega))); have cx0 := pw_cell_below hb (blk_cell (blk_new wr (.cells #[.string x.f0, .int .i64 x.f1] 31)) 0); have cx1 := pw_cell_below hb (blk_cell (blk_new wr (.cells #[.string x.f0, .int .i64 x.f1] 31)) 1); clear hb) | (go_at_call 12; refine Calls.mono (by have := Find_any (HP.out.v.below HB2.out) x; rw [HIX.out] at this; exact this) ?_; rintro e w3 ⟨rfl, hb⟩; have HB3 := Aside0.mk (below_step HB2.out hb); have HM3 := Aside0.mk (HM2.out.move (hb.block _ HM2.out.lt)); clear hb))
          go_roundw
          case measure => simp [intOf]; omega
          case rel =>
            refine ⟨i + 1, fl, by omega, by go_num, ⟨?_, ?_⟩, HM3, HB3⟩
            · rw [HT.out]
              intro y hy
              rcases List.mem_append.1 hy with hy | hy
              · exact HA.out.1 y hy
              · simp at hy; subst hy; exact HG.out
            · rw [HT.out, addAll_snoc, ← HA.out.2]
              unfold addOne
              rw [if_pos (by simp [HI.out])]
        · have hix : idx vs x = none := idx_none.2 hi
          have HIX := Aside0.mk (show (idx vs x).isSome = false by rw [hix]; rfl)
          have HI := Aside0.mk hi
          clear hix hi
          go_wp2_with (first | (go_at_call 22; refine Calls.mono (by have := Good_calls x (wr.alloc (.cells #[.string x.f0, .int .i64 x.f1] 31)); rw [HG.out] at this; exact this) ?_; rintro e w2 ⟨rfl, hb⟩; have HB2 := Aside0.mk (below_step (below_alloc HB.out _) hb); have HM2 := Aside0.mk ((HM.out.move (Below.heap_alloc _ (.cells #[.string x.f0, .int .i64 x.f1] 31) _ HM.out.lt)).move (hb.block _ (by have := HM.out.lt; simp; omega))); have cx0 := pw_cell_below hb (blk_cell (blk_new wr (.cells #[.string x.f0, .int .i64 x.f1] 31)) 0); have cx1 := pw_cell_below hb (blk_cell (blk_new wr (.cells #[.string x.f0, .int .i64 x.f1] 31)) 1); have CX := Aside0.mk (And.intro cx0 cx1); clear hb) | (go_at_call 12; refine Calls.mono (by have := Find_any (HP.out.v.below HB2.out) x; rw [HIX.out] at this; exact this) ?_; rintro e w3 ⟨rfl, hb⟩; have HB3 := Aside0.mk (below_step HB2.out hb); have HM3 := Aside0.mk (HM2.out.move (hb.block _ HM2.out.lt)); have cx0 := pw_cell_below hb CX.out.1; have cx1 := pw_cell_below hb CX.out.2; clear hb))
          obtain ⟨w4, l4, b4, hme, hm4, hk4, hlk4, hg4, hst⟩ := (HM3.out.move (w' := w3.drew) rfl).entry x
          have hl3 := (HM3.out.move (w' := w3.drew) rfl).look_one x
          have hl4 := hm4.look_one x
          rw [hlk4] at hl4
          obtain ⟨cnt, hcnt⟩ : ∃ cnt, cnt = ((look fl x).map (·.2)).getD 0 := ⟨_, rfl⟩
          rw [← hcnt] at hl3 hl4 hme
          obtain ⟨w5, l5, hes, hm5, hk5, hg5⟩ := hst (wrap64 (cnt + 1))
          have HM5 := Aside0.mk hm5
          have HK5 := Aside0.mk (hk5.trans hk4)
          have HB5 := Aside0.mk (show Below w.heap.size w w5 from ((below_drew HB3.out).trans ⟨hg4.os, hg4.tape, hg4.output, hg4.size, fun k hk => hg4.block k (Nat.lt_of_lt_of_le hk HB3.out.size) (by simp; omega)⟩).trans ⟨hg5.os, hg5.tape, hg5.output, hg5.size, fun k hk => hg5.block k (Nat.lt_of_lt_of_le hk (Nat.le_trans HB3.out.size hg4.size)) (by simp; omega)⟩)
          clear hm4 hk4 hlk4 hg4 hst hcnt hm5 hk5 hg5
          unfold vv at hme hl3 hl4
          go_region
          all_goals go_wp2
          all_goals go_roundw
          all_goals first
            | (simp [intOf]; omega; done)
            | exact ⟨i + 1, l5, by omega, by go_num, ⟨row_keep HT.out HA.out.1 HG.out, row_fresh HT.out HA.out.2 HI.out HK5.out⟩, HM5, HB5⟩
    · have e1 : l.take i = l := List.take_of_length_le (by omega)
      have hall : ∀ x ∈ l, goodV x = true := by have := HA.out.1; rwa [e1] at this
      have hkeys : vs ++ fl.map (·.1) = addAll vs l := by have := HA.out.2; rwa [e1] at this
      have HG := Aside0.mk hall
      have HK := Aside0.mk hkeys
      have HLN := Aside0.mk (show (addAll vs l).length = vs.length + fl.length by rw [← hkeys]; simp)
      clear e1 hall hkeys HA hil
      have hd : decide ((i : Int) < (l.length : Int)) = false := decide_eq_false (by omega)
      have hlen := HM.out.len
      have hfb : fl.length ≤ l.length := by have := addAll_length_le l vs; rw [HLN.out] at this; omega
      have hnn := HN.out
      by_cases hf : room < (addAll vs l).length
      · have HE := Aside0.mk (rowE_three HG.out hf)
        have hroom := HP.out.room
        rw [HLN.out] at hf
        have hd0 : decide (0 < (fl.length : Int)) = true := decide_eq_true (by omega)
        rcases HP.out with ⟨h1, h2, h3⟩ | ⟨pb, h1, h2, h3⟩
        · subst h1
          clear h2 h3
          go_wp2
          go_ret2
          exact RowPost.bad HP.out HBS.out HB.out (by rw [HE.out]) (by rw [HE.out]; decide) rfl
        · subst h1
          subst h2
          have hd1 : decide ((4096 : Int) < (vs.length : Int) + (fl.length : Int)) = true := decide_eq_true (by omega)
          have H3 := Aside0.mk h3
          clear h3
          go_wp2_with (go_at_call 20; refine (Len_calls (H3.out.below HB.out)).mono ?_; rintro e w2 ⟨rfl, ⟨nd, rfl⟩⟩; have hlen2 := (HM.out.move (w' := wr.drewN nd) rfl).len)
          go_ret2
          exact RowPost.bad HP.out HBS.out (pw_below_drewN HB.out _) (by rw [HE.out]) (by rw [HE.out]; decide) rfl
      · have HE := Aside0.mk (rowE_zero HG.out hf)
        have HF := Aside0.mk hf
        go_upto_region 11 with fail
        go_cut [55] (fun v55 wx => v55 = .bool false ∧ Aside0 (Drawn0 wr wx))
        case first =>
          rw [HLN.out] at hf
          by_cases hz : fl.length = 0
          · have hd0 : decide (0 < (fl.length : Int)) = false := decide_eq_false (by omega)
            have hd2 : decide (0 < fl.length) = false := decide_eq_false (by omega)
            have hz2 : fl.length ≤ 0 := by omega
            clear hz hf
            go_wp2
            go_meet
            case rel => exact ⟨rfl, ⟨Drawn0.refl _⟩⟩
          · have hd0 : decide (0 < (fl.length : Int)) = true := decide_eq_true (by omega)
            rcases HP.out with ⟨h1, h2, h3⟩ | ⟨pb, h1, h2, h3⟩
            · exfalso; omega
            · subst h1
              subst h2
              have hd1 : decide ((4096 : Int) < (vs.length : Int) + (fl.length : Int)) = false := decide_eq_false (by omega)
              have hroom := HP.out.room
              have H3 := Aside0.mk h3
              clear h3
              go_wp2_with (go_at_call 20; refine (Len_calls (H3.out.below HB.out)).mono ?_; rintro e w2 ⟨rfl, ⟨nd, rfl⟩⟩; have hlen2 := (HM.out.move (w' := wr.drewN nd) rfl).len)
              go_meet
              case rel => exact ⟨rfl, ⟨⟨nd, rfl⟩⟩⟩
        case rest =>
          obtain ⟨rfl, HD⟩ := hcut
          have HB2 := Aside0.mk (below_step HB.out HD.out.below)
          clear HB HM HD hlen hf hlt hd
          obtain ⟨i0, hi, hzz⟩ := Option.map_eq_some_iff.1 info3
          simp only [Prod.mk.injEq] at hzz
          have HI := Aside0.mk hi
          have HZ := Aside0.mk hzz
          clear hi hzz
          go_wp2_with (at_make; refine wpList_make_own _ rfl _ _ 27 rfl w.heap.size 3 i0 (.int .i64 0) 1 Try.underlying27 HI.out HZ.out.1 HZ.out.2.1 .i64 .i64 _ l.length rfl rfl rfl (by rw [HZ.out.2.2]; have := HN.out; omega) (by have := HN.out; unfold maxLen; omega) HB2.out.size ?_; intro w1 hown1 hg1; have HO := Aside0.mk (show Kd.R (Kd.int .i64) 3 w1 w.heap.size (fun k => w.heap.size ≤ k ∧ ¬ (P k ∧ k < w.heap.size ∧ base ≤ k)) _ ([] : List Int) from R_empty hown1 (fun k hk => by simp [Value.ownBlock] at hk; have := HB2.out.size; exact ⟨by omega, by omega⟩)); have HB3 := Aside0.mk (show Below w.heap.size w w1 from below_step HB2.out ⟨hg1.os, hg1.tape, hg1.output, hg1.size, fun k hk => hg1.block k hk (by simp)⟩); clear hown1 hg1)
          go_loopw [11, 61] (fun v11 v61 wx => ∃ (i : Nat) (ns : List Int) (P' : Nat → Prop), i ≤ l.length ∧ v61 = .int .i64 i ∧ Aside0 (ns = (l.take i).map (num (addAll vs (l.take i))) ∧ (∀ k, P' k → P k ∨ w.heap.size ≤ k)) ∧ Aside0 (PoolR wx base P' pv room (addAll vs (l.take i))) ∧ Aside0 (Kd.R (Kd.int .i64) 3 wx w.heap.size (fun k => w.heap.size ≤ k ∧ ¬ P' k) v11 ns) ∧ Aside0 (Below base w wx ∧ Kept w wx P)) (fun _ v61 _ => l.length - (intOf v61).toNat)
          case atStart => exact ⟨0, [], _, by omega, by simp, ⟨by simp, fun k hk => .inl hk.1⟩, ⟨by simpa [addAll] using HP.out.bound.below HB3.out⟩, HO, ⟨HB3.out.mono HBS.out, Kept.of_below HB3.out P⟩⟩
          case round =>
            clear HO HB3 HB2 HI HZ
            obtain ⟨j, ns, P', hjl, rfl, HA, HQ, HO, HB⟩ := hrel
            by_cases hlt : j < l.length
            · obtain ⟨ad, e, hx0, hx1⟩ := at_T31 (HL.out _ HB.out.2) (j : Int) (by omega) (by omega)
              cases e
              simp only [Int.toNat_natCast] at hx0 hx1
              have hd : decide ((j : Int) < (l.length : Int)) = true := decide_eq_true (by omega)
              obtain ⟨x, hne⟩ : ∃ x, x = rd_T31 l (j : Int) := ⟨_, rfl⟩
              rw [← hne] at hx0 hx1
              have hln : l[j]? = some x := by rw [hne]; simp [rd_T31, hlt]
              have htk : l.take (j + 1) = l.take j ++ [x] := by rw [List.take_add_one, hln]; rfl
              have HT := Aside0.mk htk
              clear hne hln htk
              obtain ⟨Ao, co, eo⟩ := Kd.R_slice HO.out
              subst eo
              have HNS := Aside0.mk (show ns.length < l.length by rw [HA.out.1]; simp; omega)
              obtain ⟨acc, hacc⟩ : ∃ acc, acc = addAll vs (l.take j) := ⟨_, rfl⟩
              have HACC := Aside0.mk hacc
              rw [← hacc] at HA HQ
              clear hacc
              by_cases hi : x ∈ acc
              · obtain ⟨m, hm⟩ : ∃ m, idx acc x = some m := by
                  cases h : idx acc x with
                  | none => exact absurd hi (idx_none.1 h)
                  | some m => exact ⟨m, rfl⟩
                have HM := Aside0.mk hm
                have HI := Aside0.mk hi
                clear hm hi
                have hml := (idx_some HM.out).1
                have hroom := HQ.out.room
                go_wp2_with (first | (go_at_call 12; refine Calls.mono (by have := Find_any (HQ.out.v.below (below_alloc (Below.refl _ _) (.cells #[.string x.f0, .int .i64 x.f1] 31))) x; rw [HM.out] at this; exact this) ?_; rintro e w3 ⟨rfl, hb⟩; have HW := Aside0.mk (below_step (below_alloc (Below.refl _ wr) (.cells #[.string x.f0, .int .i64 x.f1] 31)) hb); clear hb) | (at_builtin; refine Kd.R_append (Kd.int .i64) (w0 := w3) w.heap.size rfl (.tmp 94) (.tmp 96) 27 3 (.int .i64 0) 8 rfl Try.underlying27 info3 rfl (by decide) (by omega) (.slice Ao ns.length co) ns (m : Int) [.int .i64 (m : Int)] (fun k => w.heap.size ≤ k ∧ ¬ (P' k ∧ k < wr.heap.size ∧ base ≤ k)) (fun _ => False) rfl ?aX rfl (fun _ hk => hk.elim) ?aF ?aO ?aB ?aS ?aL ?_; (case aX => first | rfl | (simp [Act.eval]; done)); (case aO => exact Kd.R_mono (Kd.R_below HO.out HW.out) (fun k hk => ⟨hk.1, fun h => hk.2 h.1⟩)); (case aB => exact Below.refl _ _); (case aS => exact Nat.le_trans HB.out.2.1 HW.out.size); (case aF => exact (fun k hk => ⟨Nat.le_trans (Nat.le_trans HB.out.2.1 HW.out.size) hk, fun h => by have := h.2.1; have := HW.out.size; omega⟩)); (case aL => have := HN.out; have := HNS.out; omega); intro v4 w4 ho hb hg hat; have HO4 := Aside0.mk ho; have HG4 := Aside0.mk hg; clear ho hb hg hat))
                go_roundw
                case measure => simp [intOf]; omega
                case rel =>
                  refine ⟨j + 1, ns ++ [(m : Int)], _, by omega, by go_num, ⟨?_, ?_⟩, ⟨?_⟩, HO4, ⟨?_, ?_⟩⟩
                  · have := row_num HT.out (show ns = (l.take j).map (num (addAll vs (l.take j))) by rw [← HACC.out]; exact HA.out.1)
                    rw [← HACC.out, addOne_old HI.out, num_some HM.out] at this
                    exact this
                  · exact fun k hk => HA.out.2 k hk.1
                  · rw [HT.out, addAll_snoc, ← HACC.out, addOne_old HI.out]
                    refine (HQ.out.bound.below HW.out).step (fun k hk hlt => HG4.out.block k hlt (fun e => ?_))
                    have := HO.out.1 k e.symm
                    exact this.2 hk.1
                  · exact (below_mid HB.out.1 (by have := HBS.out; have := HB.out.2.1; omega) HW.out).grown HG4.out (by have := HBS.out; have := HB.out.2.1; have := HW.out.size; omega) (fun k hk => by have := (HO.out.1 k hk).1; have := HBS.out; omega)
                  · exact Kept.of_grown HG4.out (HB.out.2.below HW.out) (fun k hk => .inr (HO.out.1 k hk).1)
              · rcases HQ.out with ⟨h1, h2, h3⟩ | ⟨pb, h1, h2, h3⟩
                · exfalso
                  have e1 := addAll_take_le l vs (j + 1)
                  rw [HT.out, addAll_snoc, ← HACC.out, addOne_new hi] at e1
                  have := HF.out
                  simp at e1
                  omega
                · have hroom : acc.length + 1 ≤ 4096 := by
                    have e1 := addAll_take_le l vs (j + 1)
                    rw [HT.out, addAll_snoc, ← HACC.out, addOne_new hi] at e1
                    have := HF.out
                    simp at e1
                    omega
                  subst h1
                  subst h2
                  have HPB := Aside0.mk h3.bound
                  have HIX := Aside0.mk (idx_none.2 hi)
                  have HI := Aside0.mk hi
                  have HRM := Aside0.mk hroom
                  clear h3 hi
                  go_wp2_with (first | (go_at_call 12; refine Calls.mono (by have := Find_calls (HPB.out.below (below_alloc (Below.refl _ _) (.cells #[.string x.f0, .int .i64 x.f1] 31))) x; rw [HIX.out] at this; exact this) ?_; rintro e w3 ⟨rfl, hb⟩; have HW := Aside0.mk (below_step (below_alloc (Below.refl _ wr) (.cells #[.string x.f0, .int .i64 x.f1] 31)) hb); have cx0 := pw_cell_below hb (blk_cell (blk_new wr (.cells #[.string x.f0, .int .i64 x.f1] 31)) 0); have cx1 := pw_cell_below hb (blk_cell (blk_new wr (.cells #[.string x.f0, .int .i64 x.f1] 31)) 1); obtain ⟨mb, Ab, cb, w4, d0, d1, hmu, hH, hk4, hb4⟩ := ((HPB.out.below HW.out).drew).to_half HI.out HRM.out; have HH := Aside0.mk hH; have HK4 := Aside0.mk hk4; have HB4 := Aside0.mk hb4; have c0 : w3.cell? ⟨pb, 0, none⟩ = some (.map (some mb)) := d0; have c1 : w3.cell? ⟨pb, 1, none⟩ = some (.slice Ab acc.length cb) := d1; have e0 := cell_kept (W := w3.drew) cx0 HK4.out (fun h => Nat.lt_irrefl _ h.2.1); have e1 := cell_kept (W := w3.drew) cx1 HK4.out (fun h => Nat.lt_irrefl _ h.2.1); have k1 : w4.cell? ⟨pb, 1, none⟩ = some (.slice Ab acc.length cb) := blk_cell HH.out.at_ 1; have k2 : (w4.alloc (.cells #[.string x.f0, .int .i64 x.f1] 31)).cell? ⟨pb, 1, none⟩ = some (.slice Ab acc.length cb) := blk_cell (blk_alloc HH.out.at_ _) 1; clear hH hk4 hb4 hb d0 d1; unfold vv at hmu))
                  go_region
                  all_goals go_wp2
                  go_region_law (refine Kd.R_append_step k31 (w0 := w4.drew) (W := w4.drew) base rfl (.tmp 88) (.tmp 90) 26 31 (.agg #[(.string ⟨#[]⟩), (.int .i64 0)]) 24 rfl Try.underlying26 info31 rfl (by decide) (by omega) (.slice Ab acc.length cb) acc x [.string x.f0, .int .i64 x.f1] (fun k => (P' k ∧ k < wr.heap.size ∧ base ≤ k) ∨ w4.drew.heap.size ≤ k) (fun _ => False) (by simp [Act.eval, Act.put]) (by simp [Act.eval, Act.put]) (k31_mkM _ _ _ x) (fun _ hk => hk.elim) (fun k hk => .inr hk) (Kd.R_mono HH.out.drew.row (fun k hk => .inl hk)) (Below.refl _ _) (by have := HH.out.b1; have := blk_lt HH.out.at_; show base ≤ w4.heap.size; omega) (by have := HRM.out; omega) ?_; intro v1 w5 ho hb hg hat; obtain ⟨A1, cc1, ev1⟩ := Kd.R_slice ho; subst ev1; have hdone := HH.out.drew.done ho hg; rw [show (acc ++ [x]).length = acc.length + 1 by simp] at hdone; have c5 := hdone.1; have f5 := hdone.2.1; have HD5 := Aside0.mk hdone.2.2.1; have HU := Aside0.mk (push_all HO.out HW.out HK4.out HB4.out hdone.2.2.2.1 hdone.2.2.2.2 HB.out.1 HB.out.2 HBS.out HA.out.2); clear ho hb hg hat hdone)
                  all_goals go_wp2_with (at_builtin; refine Kd.R_append (Kd.int .i64) w.heap.size rfl (.tmp 94) (.tmp 96) 27 3 (.int .i64 0) 8 rfl Try.underlying27 info3 rfl (by decide) (by omega) (.slice Ao ns.length co) ns (acc.length : Int) [.int .i64 (acc.length : Int)] _ (fun _ => False) rfl (by first | rfl | (simp [Act.eval]; done)) rfl (fun _ hk => hk.elim) (fun k hk => ⟨Nat.le_trans HU.out.2.1 hk, fun h => by have := h.2.1; omega⟩) HU.out.1 (Below.refl _ _) HU.out.2.1 (by have := HN.out; have := HNS.out; omega) ?_; intro v6 w6 ho hb hg hat; have HO6 := Aside0.mk ho; have HG6 := Aside0.mk hg; clear ho hb hg hat)
                  all_goals go_roundw
                  all_goals first
                    | (simp [intOf]; omega; done)
                    | exact ⟨j + 1, ns ++ [(acc.length : Int)], _, by omega, by go_num, ⟨⟨by have := row_num HT.out (show ns = (l.take j).map (num (addAll vs (l.take j))) by rw [← HACC.out]; exact HA.out.1); rw [← HACC.out, num_new HI.out] at this; exact this, (push_end HU.out HD5.out HG6.out HBS.out HA.out.2 (Nat.le_trans HB.out.2.1 (Nat.le_trans HW.out.size HK4.out.1))).2.1⟩⟩, ⟨by rw [HT.out, addAll_snoc, ← HACC.out, addOne_new HI.out]; exact (push_end HU.out HD5.out HG6.out HBS.out HA.out.2 (Nat.le_trans HB.out.2.1 (Nat.le_trans HW.out.size HK4.out.1))).1⟩, HO6, ⟨(push_end HU.out HD5.out HG6.out HBS.out HA.out.2 (Nat.le_trans HB.out.2.1 (Nat.le_trans HW.out.size HK4.out.1))).2.2⟩⟩
            · have hd : decide ((j : Int) < (l.length : Int)) = false := decide_eq_false (by omega)
              have e1 : l.take j = l := List.take_of_length_le (by omega)
              rw [e1] at HA HQ
              have HE1 := Aside0.mk e1
              clear e1
              go_wp2
              go_ret2
              exact ⟨_, P', by rw [HE.out]; rfl, HA.out.2, by rw [rowVs_zero HE.out]; exact HQ.out, by rw [rowNs_zero HE.out, ← HA.out.1]; exact HO.out, HB.out.1, HB.out.2⟩

end Go.Proofs.Ytjkicljcmognhaa.PInternPlays
