/- What the reference's Find and Row answer: walked. No condition beyond those each theorem names. -/
import Derived.Test.YtjkicljcmognhaaPlaysP
namespace Go.Proofs.Ytjkicljcmognhaa.PInternPlays
open Go.RowKit Go.Proofs.YtjkicljcmognhaaW.PrintWords Go.Proofs.YtjkicljcmognhaaW.PrintLast Go.Proofs.YtjkicljcmognhaaW.PrintMore
set_option linter.unusedVariables false
set_option linter.unusedSimpArgs false
attribute [local go_sem high] eqA31

set_option maxHeartbeats 1000000 in
set_option maxRecDepth 100000 in
theorem refFind_calls (A0 : Option Addr) (c0 : Nat) (l : List S31) (v : S31) (w : World) (hr0 : Kd.C k31 w A0 l.length l) (hc0 : l.length ≤ c0) (hl : l.length ≤ 1000000) :
    Calls Try.prog 13 #[.slice A0 l.length c0, .agg #[.string v.f0, .int .i64 v.f1]] w fun e w' => e = .returned (.int .i64 (fnd l v)) ∧ Below w.heap.size w w' := by
  have H0 := Aside0.mk hr0
  have HB := Aside0.mk (below_alloc (Below.refl w.heap.size w) (.cells #[.string v.f0, .int .i64 v.f1] 31))
  have HV := Aside0.mk (blk_new w (.cells #[.string v.f0, .int .i64 v.f1] 31))
  clear hr0
  go_enter Try.func13, Try.ntmps13
  go_wp2_with fail
  obtain ⟨w1, hw1⟩ : ∃ w1, w1 = w.alloc (.cells #[.string v.f0, .int .i64 v.f1] 31) := ⟨_, rfl⟩
  rw [← hw1] at HB HV ⊢
  clear hw1
  go_loopw [5] (fun v5 wr => ∃ i : Nat, i ≤ l.length ∧ v5 = .int .i64 i ∧ Aside0 (∀ j, j < i → l[j]? ≠ some v) ∧ Aside0 (Below w1.heap.size w1 wr)) (fun v5 _ => l.length - (intOf v5).toNat)
  case atStart => exact ⟨0, by omega, rfl, ⟨fun j hj => by omega⟩, ⟨Below.refl _ _⟩⟩
  case round =>
    obtain ⟨i, hil, rfl, HN, HQ⟩ := hrel
    by_cases hlt : i < l.length
    · have f0 : decide ((i : Int) < (l.length : Int)) = true := decide_eq_true (by omega)
      have HBQ := Aside0.mk (below_step HB.out HQ.out)
      obtain ⟨ad, ea, hx0, hx1⟩ := at_T31 (Kd.C_below H0.out HBQ.out) (i : Int) (by omega) (by omega)
      cases ea
      rw [Int.toNat_natCast] at hx0 hx1
      have p2 : ((i : Int) < (l.length : Int)) = True := eq_true (by omega)
      have p3 : (i < l.length) = True := eq_true hlt
      have hy := blk_below HV.out HQ.out
      have hy0 := blk_cell hy 0
      have hy1 := blk_cell hy 1
      have hri : rd_T31 l (i : Int) = l[i] := by simp [rd_T31, hlt]
      have hgi : l[i]? = some (rd_T31 l (i : Int)) := by rw [hri]; exact List.getElem?_eq_getElem hlt
      have hdi : l.drop i = rd_T31 l (i : Int) :: l.drop (i + 1) := by rw [hri]; exact List.drop_eq_getElem_cons hlt
      obtain ⟨x, hx⟩ : ∃ x, x = rd_T31 l (i : Int) := ⟨_, rfl⟩
      rw [← hx] at hx0 hx1 hgi hdi
      have HGI := Aside0.mk hgi
      have HDI := Aside0.mk hdi
      clear hx hri hgi hdi hy
      go_wp2_with fail
      refine start_ (n := 6) (S := fun w' => w'.cell? (ad.add (i * 2)) = some (.string x.f0) ∧ w'.cell? ⟨(ad.add (i * 2)).block, (ad.add (i * 2)).off + 1, none⟩ = some (.int .i64 x.f1) ∧ w'.cell? ⟨w.heap.size, 0, none⟩ = some (.string v.f0) ∧ w'.cell? ⟨w.heap.size, 1, none⟩ = some (.int .i64 v.f1)) (ds := []) #[false, false, false, false, false, false] (by kernel_rfl) rfl rfl ⟨hx0, hx1, hy0, hy1⟩ (fun hHeld => ?_)
      have HQ2 := Aside0.mk (below_drew HQ.out)
      generalize wr.drew = w2 at HQ2 hHeld ⊢
      clear hx0 hx1 hy0 hy1 HQ HBQ
      refine pure_ (i := 0) (N := some 12) (v := ?_) (a' := ?_) #[true, false, false, false, false, false] rfl rfl (by kernel_rfl) (fun _ _ _ h => h) (Or.inl ⟨by rfl, ?_⟩) ?_ ?_
      rotate_left
      · intro w'
        go_simp
        with_reducible rfl
      rotate_left
      · simp only [Act.put, List.setIfInBounds_toArray, List.set_cons_zero, List.set_cons_succ, i64_w, i32_w]
        rfl
      refine pure_ (i := 1) (N := some 13) (v := ?_) (a' := ?_) #[true, true, false, false, false, false] rfl rfl (by kernel_rfl) (fun _ _ _ h => h) (Or.inl ⟨by rfl, ?_⟩) ?_ ?_
      rotate_left
      · intro w'
        go_simp
        with_reducible rfl
      rotate_left
      · simp only [Act.put, List.setIfInBounds_toArray, List.set_cons_zero, List.set_cons_succ, i64_w, i32_w]
        rfl
      refine pure_ (i := 2) (N := some 14) (v := ?_) (a' := ?_) #[true, true, true, false, false, false] rfl rfl (by kernel_rfl) (fun _ _ _ h => h) (Or.inl ⟨by rfl, ?_⟩) ?_ ?_
      rotate_left
      · intro w'
        go_simp
        with_reducible rfl
      rotate_left
      · simp only [Act.put, List.setIfInBounds_toArray, List.set_cons_zero, List.set_cons_succ, i64_w, i32_w]
        rfl
      refine take_ (i := 3) (N := some 15) (v := ?_) (a' := ?_) #[true, true, true, true, false, false] rfl rfl (by kernel_rfl) (fun _ _ _ h => h) (Or.inl ⟨by rfl, ?_⟩) hHeld ?_ ?_
      rotate_left
      · rintro w' ⟨s0, s1, s2, s3⟩
        go_simp
        with_reducible rfl
      rotate_left
      · simp only [Act.put, List.setIfInBounds_toArray, List.set_cons_zero, List.set_cons_succ, i64_w, i32_w]
        rfl
      refine take_ (i := 4) (N := some 16) (v := ?_) (a' := ?_) #[true, true, true, true, true, false] rfl rfl (by kernel_rfl) (fun _ _ _ h => h) (Or.inl ⟨by rfl, ?_⟩) hHeld ?_ ?_
      rotate_left
      · rintro w' ⟨s0, s1, s2, s3⟩
        go_simp
        with_reducible rfl
      rotate_left
      · simp only [Act.put, List.setIfInBounds_toArray, List.set_cons_zero, List.set_cons_succ, i64_w, i32_w]
        rfl
      by_cases he : x = v
      · have HF := Aside0.mk (show fnd l v = (i : Int) from by
          have h1 : idx l v = some i := by rw [idx_drop HN.out, HDI.out, idx, if_pos he.symm]; simp
          unfold fnd; rw [h1])
        have fe : (x.f0.toList == v.f0.toList && (x.f1 == v.f1)) = true := (s31_beq _ _).2 he
        clear he
        refine pure_ (i := 5) (N := some 17) (v := ?_) (a' := ?_) #[true, true, true, true, true, true] rfl rfl (by kernel_rfl) (fun _ _ _ h => h) (Or.inl ⟨by rfl, ?_⟩) ?_ ?_
        rotate_left
        · intro w'
          go_simp
          with_reducible rfl
        rotate_left
        · simp only [Act.put, List.setIfInBounds_toArray, List.set_cons_zero, List.set_cons_succ, i64_w, i32_w]
          rfl
        refine done_ (by kernel_rfl) ?_
        go_wp2
        go_ret
        exact ⟨by rw [HF.out]; rfl, below_step HB.out HQ2.out⟩
      · have HE := Aside0.mk he
        have fe : (x.f0.toList == v.f0.toList && (x.f1 == v.f1)) = false := by rw [Bool.eq_false_iff]; exact fun h => he ((s31_beq _ _).1 h)
        clear he
        refine pure_ (i := 5) (N := some 17) (v := ?_) (a' := ?_) #[true, true, true, true, true, true] rfl rfl (by kernel_rfl) (fun _ _ _ h => h) (Or.inl ⟨by rfl, ?_⟩) ?_ ?_
        rotate_left
        · intro w'
          go_simp
          with_reducible rfl
        rotate_left
        · simp only [Act.put, List.setIfInBounds_toArray, List.set_cons_zero, List.set_cons_succ, i64_w, i32_w]
          rfl
        refine done_ (by kernel_rfl) ?_
        go_wp2
        go_roundw
        case measure => simp [intOf]; omega
        case rel => exact ⟨i + 1, by omega, by go_num, ⟨fun j hj => by
            by_cases hji : j < i
            · exact HN.out j hji
            · obtain rfl : j = i := by omega
              rw [HGI.out]; exact fun h => HE.out (Option.some.inj h)⟩, HQ2⟩
    · have f0 : decide ((i : Int) < (l.length : Int)) = false := decide_eq_false (by omega)
      have HF := Aside0.mk (show fnd l v = -1 from by
        have h1 : idx l v = none := by rw [idx_drop HN.out, List.drop_of_length_le (by omega)]; rfl
        unfold fnd; rw [h1])
      go_wp2
      go_ret
      exact ⟨by rw [HF.out]; rfl, below_step HB.out HQ.out⟩

theorem nums_step {acc t : List S31} {x : S31} (hpre : ∀ y ∈ t, y ∈ acc) : (t ++ [x]).map (num (addOne acc x)) = t.map (num acc) ++ [num (addOne acc x) x] := by
  rw [List.map_append]
  by_cases hm : x ∈ acc
  · rw [addOne_old hm]; rfl
  · rw [addOne_new hm, nums_stay hpre]; rfl
theorem k31_KM {w : World} {base : Nat} {ok : Nat → Prop} (x : S31) (cs : List Value) (h : k31.K w x cs) : k31.M w base ok x cs := by
  rw [k31_open h]
  exact k31_mkM _ _ _ x

set_option maxHeartbeats 4000000 in
set_option maxRecDepth 100000 in
theorem refRow_calls (P0_ : Nat → Prop) (u9000_ : Value) (l0 : List S31) (A1 : Option Addr) (c1 : Nat) (l1 : List S31) (r1 : List S31) (r2 : List Int) (r3 : Int) (w0 w : World) (hB : Below w0.heap.size w0 w) (ho0 : Kd.R k31 31 w w0.heap.size P0_ u9000_ l0) (hr1 : ∀ W_, Kept w W_ (fun k_ => P0_ k_) → Kd.C k31 W_ A1 l1.length l1) (hc1 : l1.length ≤ c1) (hv : l0.length ≤ 4096) (hl : l1.length ≤ 50) (h : rowF l0 l1 = (r1, r2, r3)) :
    Calls Try.prog 11 #[u9000_, .slice A1 l1.length c1] w fun e w' => ∃ v0_ v1_ : Value, e = .returned (.tuple #[v0_, v1_, .int .i64 r3]) ∧ Kd.R k31 31 w' w0.heap.size (fun k_ => (P0_ k_ ∨ w.heap.size ≤ k_)) v0_ r1 ∧ Kd.R (Kd.int .i64) 3 w' w0.heap.size (fun k_ => (P0_ k_ ∨ w.heap.size ≤ k_)) v1_ r2 ∧ Below w0.heap.size w0 w' ∧ Kept w w' (fun k_ => P0_ k_) := by
  injection h with e1 h
  injection h with e2 e3
  subst e1
  subst e2
  subst e3
  obtain ⟨A0, c0, ev⟩ := Kd.R_slice ho0
  subst ev
  have HO := Aside0.mk ho0
  have H1 := Aside0.mk (fun (W : World) (hb : Below w.heap.size w W) => hr1 W (Kept.of_below hb _))
  have HWB := Aside0.mk hB
  have HC0 := Aside0.mk (Kd.R_reads' ho0).2
  have HERR := Aside0.mk (fun (W : World) (hb : Below w.heap.size w W) => show Kd.R k31 31 W w0.heap.size (fun k => P0_ k ∨ w.heap.size ≤ k) (.slice A0 l0.length c0) l0 from Kd.R_mono (Kd.R_below ho0 hb) (fun _ hk => .inl hk))
  clear ho0 hr1 hB
  go_enter Try.func11, Try.ntmps11
  go_wp2_with fail
  go_loopw [7] (fun v7 wr => ∃ i : Nat, i ≤ l1.length ∧ v7 = .int .i64 i ∧ Aside0 (∀ y ∈ l1.take i, goodV y = true) ∧ Aside0 (Below w.heap.size w wr)) (fun v7 _ => l1.length - (intOf v7).toNat)
  case atStart => exact ⟨0, by omega, rfl, ⟨fun y hy => by simp at hy⟩, ⟨Below.refl _ _⟩⟩
  case round =>
    obtain ⟨i, hil, rfl, HG, HQ⟩ := hrel
    by_cases hlt : i < l1.length
    · have f0 : decide ((i : Int) < (l1.length : Int)) = true := decide_eq_true (by omega)
      obtain ⟨ad, ea, hx0, hx1⟩ := at_T31 (H1.out _ HQ.out) (i : Int) (by omega) (by omega)
      cases ea
      rw [Int.toNat_natCast] at hx0 hx1
      have p2 : ((i : Int) < (l1.length : Int)) = True := eq_true (by omega)
      have p3 : (i < l1.length) = True := eq_true hlt
      have htk : l1.take (i + 1) = l1.take i ++ [rd_T31 l1 (i : Int)] := by rw [List.take_add_one]; simp [rd_T31, hlt]
      have hmem : rd_T31 l1 (i : Int) ∈ l1 := rd_mem hlt
      obtain ⟨x, hx⟩ : ∃ x, x = rd_T31 l1 (i : Int) := ⟨_, rfl⟩
      rw [← hx] at hx0 hx1 htk hmem
      have HT := Aside0.mk htk
      have HM := Aside0.mk hmem
      clear hx htk hmem
      go_wp2_with fail
      refine Calls.mono (mandateref01_Good.calls 20 x.f0 x.f1 (goodV x) _ (ref_good x)) ?_
      rintro e w2 ⟨rfl, hb⟩
      have HQ2 := Aside0.mk (below_step HQ.out hb)
      clear hb hx0 hx1
      by_cases hg : goodV x = true
      · have HGX := Aside0.mk hg
        rw [hg]
        clear hg
        go_wp2
        go_roundw
        case measure => simp [intOf]; omega
        case rel => exact ⟨i + 1, by omega, by go_num, ⟨row_keep HT.out HG.out HGX.out⟩, HQ2⟩
      · rw [Bool.not_eq_true] at hg
        have HE := Aside0.mk (show rowE 4096 l0 l1 = 1 from by
          unfold rowE
          rw [if_pos (by rw [List.all_eq_false]; exact ⟨x, HM.out, by rw [hg]; simp⟩)])
        rw [hg]
        clear hg
        go_wp2
        go_ret3
        exact ⟨_, _, by rw [HE.out]; rfl, by unfold rowVs; rw [HE.out, if_neg (by decide)]; exact HERR.out _ HQ2.out, by unfold rowNs; rw [HE.out, if_neg (by decide)]; exact Kd.R_nil _ _ _ _ _, below_step HWB.out HQ2.out, Kept.of_below HQ2.out _⟩
    · have f0 : decide ((i : Int) < (l1.length : Int)) = false := decide_eq_false (by omega)
      rw [List.take_of_length_le (by omega)] at HG
      obtain ⟨wa, hwa⟩ : ∃ wa, wa = wr := ⟨_, rfl⟩
      subst hwa
      have HCa := Aside0.mk (Kd.C_below HC0.out.2 HQ.out)
      go_wp2_with (first | ((with_reducible refine gate_dst (N := 24) rfl ?_); refine Kd.R_lit k31 (w0 := w) w.heap.size 31 ?hg (N := 24) ?hd (xs := ([] : List S31)) (inner := []) (ok := fun _ => True) (okp := fun _ => False) ?hr (Reps.none _ _) (fun _ hk => hk.elim) trivial HQ.out HQ.out.size (by simp) ?_; (case hd => rfl); (case hg => rfl); (case hr => first | (go_simp; done) | (go_simp; rfl)); intro v3 w3 ho hb hg hat; obtain ⟨A3', c3', ev⟩ := Kd.R_slice ho; subst ev; have HB3 := Aside0.mk hb; have HO3 := Aside0.mk ho; clear ho hb hg hat) | ((with_reducible refine gate_builtin (b := .append) (xs := #[.tmp 24, .tmp 25]) rfl ?_); at_builtin; refine Kd.R_append_rows k31 (w0 := w) w.heap.size rfl (.tmp 24) (.tmp 25) 26 31 (.agg #[(.string ⟨#[]⟩), (.int .i64 0)]) 24 rfl Try.underlying26 info31 rfl (by decide) (by omega) (.slice A3' ([] : List S31).length c3') [] l0 A0 l0.length c0 (fun _ => True) (fun _ => False) rfl rfl HO3.out (Kd.C_below HC0.out.2 HB3.out) (fun x cs h => k31_KM x cs h) (fun _ hk => hk.elim) (fun _ _ => trivial) HB3.out HB3.out.size (by simp; omega) ?_; intro v4 w4 ho hb hg hat; have HB4 := Aside0.mk hb; have HO4 := Aside0.mk (show Kd.R k31 31 w4 w.heap.size (fun _ => True) v4 (addAll l0 (l1.take 0)) from ho); clear ho hb hg hat HB3 HO3))
      go_loopw [8, 9, 10] (fun v8 v9 v10 wr => ∃ i : Nat, i ≤ l1.length ∧ v10 = .int .i64 i ∧ Aside0 (Kd.R k31 31 wr w.heap.size (fun _ => True) v8 (addAll l0 (l1.take i))) ∧ Aside0 (Kd.R (Kd.int .i64) 3 wr w.heap.size (fun _ => True) v9 ((l1.take i).map (num (addAll l0 (l1.take i))))) ∧ Aside0 (Below w.heap.size w wr)) (fun _ _ v10 _ => l1.length - (intOf v10).toNat)
      case atStart => exact ⟨0, by omega, rfl, HO4, ⟨Kd.R_nil _ _ _ _ _⟩, HB4⟩
      case round =>
        clear HO4 HB4
        obtain ⟨i, hil, rfl, HA, HN, HB⟩ := hrel
        have hal := addAll_length_le (l1.take i) l0
        have hti : (l1.take i).length ≤ 50 := by rw [List.length_take]; omega
        by_cases hlt : i < l1.length
        · have f0 : decide ((i : Int) < (l1.length : Int)) = true := decide_eq_true (by omega)
          obtain ⟨ad, ea, hx0, hx1⟩ := at_T31 (H1.out _ HB.out) (i : Int) (by omega) (by omega)
          have HAD := Aside0.mk (fun (W : World) (hb : Below w.heap.size w W) => at_T31 (H1.out W hb) (i : Int) (by omega) (by omega))
          cases ea
          rw [Int.toNat_natCast] at hx0 hx1
          have p2 : ((i : Int) < (l1.length : Int)) = True := eq_true (by omega)
          have p3 : (i < l1.length) = True := eq_true hlt
          have htk : l1.take (i + 1) = l1.take i ++ [rd_T31 l1 (i : Int)] := by rw [List.take_add_one]; simp [rd_T31, hlt]
          obtain ⟨x, hx⟩ : ∃ x, x = rd_T31 l1 (i : Int) := ⟨_, rfl⟩
          rw [← hx] at hx0 hx1 htk
          have HXE := Aside0.mk hx
          obtain ⟨acc, hacc⟩ : ∃ a, a = addAll l0 (l1.take i) := ⟨_, rfl⟩
          have hacc1 : addAll l0 (l1.take (i + 1)) = addOne acc x := by rw [htk, addAll_snoc, hacc]
          have hns1 : (l1.take (i + 1)).map (num (addAll l0 (l1.take (i + 1)))) = (l1.take i).map (num acc) ++ [num (addOne acc x) x] := by
            rw [hacc1, htk]
            exact nums_step (fun y hy => by rw [hacc]; exact mem_addAll _ _ _ (.inl hy))
          rw [← hacc] at HA HN hal
          obtain ⟨ns, hns⟩ : ∃ ns, ns = (l1.take i).map (num acc) := ⟨_, rfl⟩
          have hnl : ns.length ≤ 50 := by rw [hns, List.length_map]; exact hti
          rw [← hns] at HN hns1
          have HA1 := Aside0.mk hacc1
          have HN1 := Aside0.mk hns1
          clear hx htk hacc hacc1 hns hns1
          obtain ⟨Aa, ca, ev⟩ := Kd.R_slice HA.out
          subst ev
          obtain ⟨An, cn, ev⟩ := Kd.R_slice HN.out
          subst ev
          go_wp2_with fail
          refine Calls.mono (refFind_calls Aa ca acc x _ (Kd.R_reads' HA.out).2.2 (Kd.R_reads' HA.out).2.1 (by omega)) ?_
          rintro e w5 ⟨rfl, hb⟩
          have HA5 := Aside0.mk (Kd.R_below HA.out hb)
          have HN5 := Aside0.mk (Kd.R_below HN.out hb)
          have HB5 := Aside0.mk (below_step HB.out hb)
          clear hb hx0 hx1 HA HN HB
          obtain ⟨ad', ea, hx0, hx1⟩ := HAD.out _ HB5.out
          cases ea
          rw [Int.toNat_natCast, ← HXE.out] at hx0 hx1
          by_cases hm : x ∈ acc
          · have fn : decide (fnd acc x < 0) = false := decide_eq_false (by have := fnd_in hm; omega)
            have HM := Aside0.mk hm
            have hsz5 := HB5.out.size
            clear hm
            go_wp2_with fail
            refine Calls.mono (refFind_calls Aa ca acc x _ (Kd.R_reads' HA5.out).2.2 (Kd.R_reads' HA5.out).2.1 (by omega)) ?_
            rintro e w6 ⟨rfl, hb⟩
            have HA6 := Aside0.mk (Kd.R_below HA5.out hb)
            have HN6 := Aside0.mk (Kd.R_below HN5.out hb)
            have HB6 := Aside0.mk (below_step HB5.out hb)
            have hsz6 := HB6.out.size
            clear hb hx0 hx1 HA5 HN5 HB5
            go_wp2_with (at_builtin; refine Kd.R_append (Kd.int .i64) (w0 := w) w.heap.size rfl (.tmp 47) (.tmp 54) 27 3 (.int .i64 0) 8 rfl Try.underlying27 info3 rfl (by decide) (by omega) (.slice An ns.length cn) ns (fnd acc x) [.int .i64 (fnd acc x)] (fun _ => True) (fun _ => False) rfl rfl ?aP (fun _ hk => hk.elim) ?aF ?aO ?aB ?aS ?aL ?_; (case aP => exact rfl); (case aB => exact HB6.out); (case aF => exact (fun _ _ => trivial)); (case aO => exact HN6.out); (case aS => exact hsz6); (case aL => omega); intro v7 w7 ho hb hg hat; have HN7 := Aside0.mk ho; have HB7 := Aside0.mk hb; have HA7 := Aside0.mk (Kd.R_over HA6.out HN6.out (by decide) hg); clear ho hb hg hat)
            go_roundw
            case measure => simp [intOf]; omega
            case rel => exact ⟨i + 1, by omega, by go_num, ⟨by rw [HA1.out, addOne_old HM.out]; exact HA7.out⟩, ⟨by rw [HN1.out, addOne_old HM.out, ← (fnd_in HM.out).1]; exact HN7.out⟩, HB7⟩
          · have fn : decide (fnd acc x < 0) = true := decide_eq_true (by rw [fnd_none hm]; decide)
            have HM := Aside0.mk hm
            have hsz5 := HB5.out.size
            clear hm
            go_wp2_with (at_builtin; refine Kd.R_append k31 (w0 := w) w.heap.size rfl (.tmp 40) (.tmp 45) 26 31 (.agg #[(.string ⟨#[]⟩), (.int .i64 0)]) 24 rfl Try.underlying26 info31 rfl (by decide) (by omega) (.slice Aa acc.length ca) acc x [.string x.f0, .int .i64 x.f1] (fun _ => True) (fun _ => False) rfl rfl (k31_mkM _ _ _ x) (fun _ hk => hk.elim) ?aF ?aO ?aB ?aS ?aL ?_; (case aB => exact HB5.out); (case aF => exact (fun _ _ => trivial)); (case aO => exact HA5.out); (case aS => exact hsz5); (case aL => omega); intro v6 w6 ho hb hg hat; obtain ⟨acc2, ha2⟩ : ∃ a2, a2 = acc ++ [x] := ⟨_, rfl⟩; rw [← ha2] at ho; have HA2 := Aside0.mk ha2; have hl6 : acc2.length ≤ 1000000 := (by rw [ha2, List.length_append, List.length_singleton]; omega); have HA6 := Aside0.mk ho; have HB6 := Aside0.mk hb; have HN6 := Aside0.mk (Kd.R_over HN5.out HA5.out (by decide) hg); clear ha2 ho hb hg hat HA5 HN5 HB5 hsz5 hx0 hx1; obtain ⟨Ab, cb, ev⟩ := Kd.R_slice HA6.out; subst ev; obtain ⟨ad2, ea, hx0, hx1⟩ := HAD.out _ HB6.out; cases ea; rw [Int.toNat_natCast, ← HXE.out] at hx0 hx1)
            refine Calls.mono (refFind_calls Ab cb acc2 x _ (Kd.R_reads' HA6.out).2.2 (Kd.R_reads' HA6.out).2.1 hl6) ?_
            rintro e w7 ⟨rfl, hb⟩
            have HA7 := Aside0.mk (Kd.R_below HA6.out hb)
            have HN7 := Aside0.mk (Kd.R_below HN6.out hb)
            have HB7 := Aside0.mk (below_step HB6.out hb)
            have hsz7 := HB7.out.size
            clear hb hx0 hx1 HA6 HN6 HB6
            go_wp2_with (at_builtin; refine Kd.R_append (Kd.int .i64) (w0 := w) w.heap.size rfl (.tmp 47) (.tmp 54) 27 3 (.int .i64 0) 8 rfl Try.underlying27 info3 rfl (by decide) (by omega) (.slice An ns.length cn) ns (fnd acc2 x) [.int .i64 (fnd acc2 x)] (fun _ => True) (fun _ => False) rfl rfl ?aP (fun _ hk => hk.elim) ?aF ?aO ?aB ?aS ?aL ?_; (case aP => exact rfl); (case aB => exact HB7.out); (case aF => exact (fun _ _ => trivial)); (case aO => exact HN7.out); (case aS => exact hsz7); (case aL => omega); intro v8 w8 ho hb hg hat; have HN8 := Aside0.mk ho; have HB8 := Aside0.mk hb; have HA8 := Aside0.mk (Kd.R_over HA7.out HN7.out (by decide) hg); clear ho hb hg hat)
            go_roundw
            case measure => simp [intOf]; omega
            case rel => exact ⟨i + 1, by omega, by go_num, ⟨by rw [HA1.out, addOne_new HM.out, ← HA2.out]; exact HA8.out⟩, ⟨by rw [HN1.out, addOne_new HM.out, ← (fnd_in (l := acc ++ [x]) (by simp)).1, ← HA2.out]; exact HN8.out⟩, HB8⟩
        · have f0 : decide ((i : Int) < (l1.length : Int)) = false := decide_eq_false (by omega)
          have etk : l1.take i = l1 := List.take_of_length_le (by omega)
          rw [etk] at HA HN hal
          obtain ⟨Aa, ca, ev⟩ := Kd.R_slice HA.out
          subst ev
          obtain ⟨An, cn, ev⟩ := Kd.R_slice HN.out
          subst ev
          have hsz0 := HWB.out.size
          by_cases hf : 4096 < (addAll l0 l1).length
          · have ff : decide ((4096 : Int) < ((addAll l0 l1).length : Int)) = true := decide_eq_true (by omega)
            have ff2 : decide (4096 < (addAll l0 l1).length) = true := decide_eq_true hf
            have HE := Aside0.mk (rowE_three HG.out hf)
            go_wp2
            go_ret3
            exact ⟨_, _, by rw [HE.out]; rfl, by unfold rowVs; rw [HE.out, if_neg (by decide)]; exact HERR.out _ HB.out, by unfold rowNs; rw [HE.out, if_neg (by decide)]; exact Kd.R_nil _ _ _ _ _, below_step HWB.out HB.out, Kept.of_below HB.out _⟩
          · have ff : decide ((4096 : Int) < ((addAll l0 l1).length : Int)) = false := decide_eq_false (by omega)
            have ff2 : decide (4096 < (addAll l0 l1).length) = false := decide_eq_false hf
            have HE := Aside0.mk (rowE_zero HG.out hf)
            go_wp2
            go_ret3
            exact ⟨_, _, by rw [HE.out]; rfl, by unfold rowVs; rw [HE.out, if_pos rfl]; exact Kd.R_mono (Kd.R_lower (Kd.R_bound HA.out) hsz0) (fun k hk => .inr hk.2.1), by unfold rowNs; rw [HE.out, if_pos rfl]; exact Kd.R_mono (Kd.R_lower (Kd.R_bound HN.out) hsz0) (fun k hk => .inr hk.2.1), below_step HWB.out HB.out, Kept.of_below HB.out _⟩

end Go.Proofs.Ytjkicljcmognhaa.PInternPlays
