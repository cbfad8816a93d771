/- What the laws' own comparisons answer for equal lists. No condition beyond those each theorem names. -/
import Derived.Test.YtjkicljcmognhaaPInternPlaysx1
namespace Go.Proofs.Ytjkicljcmognhaa.PInternPlays
open Go.RowKit Go.Proofs.YtjkicljcmognhaaW.PrintWords Go.Proofs.YtjkicljcmognhaaW.PrintLast Go.Proofs.YtjkicljcmognhaaW.PrintMore
set_option linter.unusedVariables false
set_option linter.unusedSimpArgs false
attribute [local go_sem high] eqA31

set_option maxHeartbeats 1000000 in
set_option maxRecDepth 100000 in
theorem numbers_calls (A0 : Option Addr) (c0 : Nat) (A1 : Option Addr) (c1 : Nat) (l : List Int) (w : World) (hr0 : Kd.C (Kd.int .i64) w A0 l.length l) (hc0 : l.length ≤ c0) (hr1 : Kd.C (Kd.int .i64) w A1 l.length l) (hc1 : l.length ≤ c1) (hl : l.length ≤ 1000000) :
    Calls Try.prog 16 #[.slice A0 l.length c0, .slice A1 l.length c1] w fun e w' => e = .returned (.bool true) ∧ Drawn0 w w' := by
  have H0 := Aside0.mk hr0
  have H1 := Aside0.mk hr1
  clear hr0 hr1
  go_enter Try.func16, Try.ntmps16
  go_wp2_with fail
  go_loopw [5] (fun v5 wr => ∃ i : Nat, i ≤ l.length ∧ v5 = .int .i64 i ∧ Aside0 (Drawn0 w wr)) (fun v5 _ => l.length - (intOf v5).toNat)
  case atStart => exact ⟨0, by omega, rfl, ⟨Drawn0.refl _⟩⟩
  case round =>
    obtain ⟨i, hil, rfl, HQ⟩ := hrel
    by_cases hlt : i < l.length
    · have f0 : decide ((i : Int) < (l.length : Int)) = true := decide_eq_true (by omega)
      obtain ⟨m, hm⟩ := HQ.out
      have hbw := pw_below_drewN (Below.refl w.heap.size w) m
      rw [← hm] at hbw
      obtain ⟨ad0, ea, hx0⟩ := Kd.at_int (Kd.C_below H0.out hbw) (i : Int) (by omega) (by omega)
      cases ea
      obtain ⟨ad1, ea, hx1⟩ := Kd.at_int (Kd.C_below H1.out hbw) (i : Int) (by omega) (by omega)
      cases ea
      rw [Int.toNat_natCast] at hx0 hx1
      have p2 : ((i : Int) < (l.length : Int)) = True := eq_true (by omega)
      have p3 : (i < l.length) = True := eq_true hlt
      obtain ⟨x, hx⟩ : ∃ x, x = rd l (i : Int) := ⟨_, rfl⟩
      rw [← hx] at hx0 hx1
      have fx : (x != x) = false := by simp
      clear hx hm hbw
      go_wp2_with fail
      refine start_ (n := 9) (S := fun w' => w'.cell? (ad0.add i) = some (.int .i64 x) ∧ w'.cell? (ad1.add i) = some (.int .i64 x)) (ds := []) #[false, false, false, false, false, false, false, false, false] (by kernel_rfl) rfl rfl ⟨hx0, hx1⟩ (fun hHeld => ?_)
      refine pure_ (i := 0) (N := some 17) (v := ?_) (a' := ?_) #[true, false, false, false, false, false, false, false, false] rfl rfl (by kernel_rfl) (fun _ _ _ h => h) (Or.inl ⟨by rfl, ?_⟩) ?_ ?_
      rotate_left
      · intro w'
        go_simp
        with_reducible rfl
      rotate_left
      · simp only [Act.put, List.setIfInBounds_toArray, List.set_cons_zero, List.set_cons_succ, i64_w, i32_w]
        rfl
      refine pure_ (i := 1) (N := some 18) (v := ?_) (a' := ?_) #[true, true, false, false, false, false, false, false, false] rfl rfl (by kernel_rfl) (fun _ _ _ h => h) (Or.inl ⟨by rfl, ?_⟩) ?_ ?_
      rotate_left
      · intro w'
        go_simp
        with_reducible rfl
      rotate_left
      · simp only [Act.put, List.setIfInBounds_toArray, List.set_cons_zero, List.set_cons_succ, i64_w, i32_w]
        rfl
      refine pure_ (i := 2) (N := some 19) (v := ?_) (a' := ?_) #[true, true, true, false, false, false, false, false, false] rfl rfl (by kernel_rfl) (fun _ _ _ h => h) (Or.inl ⟨by rfl, ?_⟩) ?_ ?_
      rotate_left
      · intro w'
        go_simp
        with_reducible rfl
      rotate_left
      · simp only [Act.put, List.setIfInBounds_toArray, List.set_cons_zero, List.set_cons_succ, i64_w, i32_w]
        rfl
      refine take_ (i := 3) (N := some 20) (v := ?_) (a' := ?_) #[true, true, true, true, false, false, false, false, false] rfl rfl (by kernel_rfl) (fun _ _ _ h => h) (Or.inl ⟨by rfl, ?_⟩) hHeld ?_ ?_
      rotate_left
      · rintro w' ⟨s0, s1⟩
        go_simp
        with_reducible rfl
      rotate_left
      · simp only [Act.put, List.setIfInBounds_toArray, List.set_cons_zero, List.set_cons_succ, i64_w, i32_w]
        rfl
      refine pure_ (i := 4) (N := some 21) (v := ?_) (a' := ?_) #[true, true, true, true, true, false, false, false, false] rfl rfl (by kernel_rfl) (fun _ _ _ h => h) (Or.inl ⟨by rfl, ?_⟩) ?_ ?_
      rotate_left
      · intro w'
        go_simp
        with_reducible rfl
      rotate_left
      · simp only [Act.put, List.setIfInBounds_toArray, List.set_cons_zero, List.set_cons_succ, i64_w, i32_w]
        rfl
      refine pure_ (i := 5) (N := some 22) (v := ?_) (a' := ?_) #[true, true, true, true, true, true, false, false, false] rfl rfl (by kernel_rfl) (fun _ _ _ h => h) (Or.inl ⟨by rfl, ?_⟩) ?_ ?_
      rotate_left
      · intro w'
        go_simp
        with_reducible rfl
      rotate_left
      · simp only [Act.put, List.setIfInBounds_toArray, List.set_cons_zero, List.set_cons_succ, i64_w, i32_w]
        rfl
      refine pure_ (i := 6) (N := some 23) (v := ?_) (a' := ?_) #[true, true, true, true, true, true, true, false, false] rfl rfl (by kernel_rfl) (fun _ _ _ h => h) (Or.inl ⟨by rfl, ?_⟩) ?_ ?_
      rotate_left
      · intro w'
        go_simp
        with_reducible rfl
      rotate_left
      · simp only [Act.put, List.setIfInBounds_toArray, List.set_cons_zero, List.set_cons_succ, i64_w, i32_w]
        rfl
      refine take_ (i := 7) (N := some 24) (v := ?_) (a' := ?_) #[true, true, true, true, true, true, true, true, false] rfl rfl (by kernel_rfl) (fun _ _ _ h => h) (Or.inl ⟨by rfl, ?_⟩) hHeld ?_ ?_
      rotate_left
      · rintro w' ⟨s0, s1⟩
        go_simp
        with_reducible rfl
      rotate_left
      · simp only [Act.put, List.setIfInBounds_toArray, List.set_cons_zero, List.set_cons_succ, i64_w, i32_w]
        rfl
      refine pure_ (i := 8) (N := some 25) (v := ?_) (a' := ?_) #[true, true, true, true, true, true, true, true, true] rfl rfl (by kernel_rfl) (fun _ _ _ h => h) (Or.inl ⟨by rfl, ?_⟩) ?_ ?_
      rotate_left
      · intro w'
        go_simp
        with_reducible rfl
      rotate_left
      · simp only [Act.put, List.setIfInBounds_toArray, List.set_cons_zero, List.set_cons_succ, i64_w, i32_w]
        rfl
      refine done_ (by kernel_rfl) ?_
      go_wp2
      go_roundw
      case measure => simp [intOf]; omega
      case rel => exact ⟨i + 1, by omega, by go_num, ⟨Drawn0.step HQ.out 1⟩⟩
    · have f0 : decide ((i : Int) < (l.length : Int)) = false := decide_eq_false (by omega)
      go_wp2
      go_ret
      exact ⟨rfl, HQ.out⟩

set_option maxHeartbeats 1000000 in
set_option maxRecDepth 100000 in
theorem values_calls (A0 : Option Addr) (c0 : Nat) (A1 : Option Addr) (c1 : Nat) (l : List S31) (w : World) (hr0 : Kd.C k31 w A0 l.length l) (hc0 : l.length ≤ c0) (hr1 : Kd.C k31 w A1 l.length l) (hc1 : l.length ≤ c1) (hl : l.length ≤ 1000000) :
    Calls Try.prog 18 #[.slice A0 l.length c0, .slice A1 l.length c1] w fun e w' => e = .returned (.bool true) ∧ Drawn0 w w' := by
  have H0 := Aside0.mk hr0
  have H1 := Aside0.mk hr1
  clear hr0 hr1
  go_enter Try.func18, Try.ntmps18
  go_wp2_with fail
  go_loopw [5] (fun v5 wr => ∃ i : Nat, i ≤ l.length ∧ v5 = .int .i64 i ∧ Aside0 (Drawn0 w wr)) (fun v5 _ => l.length - (intOf v5).toNat)
  case atStart => exact ⟨0, by omega, rfl, ⟨Drawn0.refl _⟩⟩
  case round =>
    obtain ⟨i, hil, rfl, HQ⟩ := hrel
    by_cases hlt : i < l.length
    · have f0 : decide ((i : Int) < (l.length : Int)) = true := decide_eq_true (by omega)
      obtain ⟨m, hm⟩ := HQ.out
      have hbw := pw_below_drewN (Below.refl w.heap.size w) m
      rw [← hm] at hbw
      obtain ⟨ad0, ea, hx0, hx0'⟩ := at_T31 (Kd.C_below H0.out hbw) (i : Int) (by omega) (by omega)
      cases ea
      obtain ⟨ad1, ea, hx1, hx1'⟩ := at_T31 (Kd.C_below H1.out hbw) (i : Int) (by omega) (by omega)
      cases ea
      rw [Int.toNat_natCast] at hx0 hx1 hx0' hx1'
      have p2 : ((i : Int) < (l.length : Int)) = True := eq_true (by omega)
      have p3 : (i < l.length) = True := eq_true hlt
      obtain ⟨x, hx⟩ : ∃ x, x = rd_T31 l (i : Int) := ⟨_, rfl⟩
      rw [← hx] at hx0 hx1 hx0' hx1'
      have fx : (x.f0.toList == x.f0.toList && (x.f1 == x.f1)) = true := by simp
      clear hx hm hbw
      go_wp2_with fail
      refine start_ (n := 9) (S := fun w' => w'.cell? (ad0.add (i * 2)) = some (.string x.f0) ∧ w'.cell? ⟨(ad0.add (i * 2)).block, (ad0.add (i * 2)).off + 1, none⟩ = some (.int .i64 x.f1) ∧ w'.cell? (ad1.add (i * 2)) = some (.string x.f0) ∧ w'.cell? ⟨(ad1.add (i * 2)).block, (ad1.add (i * 2)).off + 1, none⟩ = some (.int .i64 x.f1)) (ds := []) #[false, false, false, false, false, false, false, false, false] (by kernel_rfl) rfl rfl ⟨hx0, hx0', hx1, hx1'⟩ (fun hHeld => ?_)
      refine pure_ (i := 0) (N := some 17) (v := ?_) (a' := ?_) #[true, false, false, false, false, false, false, false, false] rfl rfl (by kernel_rfl) (fun _ _ _ h => h) (Or.inl ⟨by rfl, ?_⟩) ?_ ?_
      rotate_left
      · intro w'
        go_simp
        with_reducible rfl
      rotate_left
      · simp only [Act.put, List.setIfInBounds_toArray, List.set_cons_zero, List.set_cons_succ, i64_w, i32_w]
        rfl
      refine pure_ (i := 1) (N := some 18) (v := ?_) (a' := ?_) #[true, true, false, false, false, false, false, false, false] rfl rfl (by kernel_rfl) (fun _ _ _ h => h) (Or.inl ⟨by rfl, ?_⟩) ?_ ?_
      rotate_left
      · intro w'
        go_simp
        with_reducible rfl
      rotate_left
      · simp only [Act.put, List.setIfInBounds_toArray, List.set_cons_zero, List.set_cons_succ, i64_w, i32_w]
        rfl
      refine pure_ (i := 2) (N := some 19) (v := ?_) (a' := ?_) #[true, true, true, false, false, false, false, false, false] rfl rfl (by kernel_rfl) (fun _ _ _ h => h) (Or.inl ⟨by rfl, ?_⟩) ?_ ?_
      rotate_left
      · intro w'
        go_simp
        with_reducible rfl
      rotate_left
      · simp only [Act.put, List.setIfInBounds_toArray, List.set_cons_zero, List.set_cons_succ, i64_w, i32_w]
        rfl
      refine take_ (i := 3) (N := some 20) (v := ?_) (a' := ?_) #[true, true, true, true, false, false, false, false, false] rfl rfl (by kernel_rfl) (fun _ _ _ h => h) (Or.inl ⟨by rfl, ?_⟩) hHeld ?_ ?_
      rotate_left
      · rintro w' ⟨s0, s1, s2, s3⟩
        go_simp
        with_reducible rfl
      rotate_left
      · simp only [Act.put, List.setIfInBounds_toArray, List.set_cons_zero, List.set_cons_succ, i64_w, i32_w]
        rfl
      refine pure_ (i := 4) (N := some 21) (v := ?_) (a' := ?_) #[true, true, true, true, true, false, false, false, false] rfl rfl (by kernel_rfl) (fun _ _ _ h => h) (Or.inl ⟨by rfl, ?_⟩) ?_ ?_
      rotate_left
      · intro w'
        go_simp
        with_reducible rfl
      rotate_left
      · simp only [Act.put, List.setIfInBounds_toArray, List.set_cons_zero, List.set_cons_succ, i64_w, i32_w]
        rfl
      refine pure_ (i := 5) (N := some 22) (v := ?_) (a' := ?_) #[true, true, true, true, true, true, false, false, false] rfl rfl (by kernel_rfl) (fun _ _ _ h => h) (Or.inl ⟨by rfl, ?_⟩) ?_ ?_
      rotate_left
      · intro w'
        go_simp
        with_reducible rfl
      rotate_left
      · simp only [Act.put, List.setIfInBounds_toArray, List.set_cons_zero, List.set_cons_succ, i64_w, i32_w]
        rfl
      refine pure_ (i := 6) (N := some 23) (v := ?_) (a' := ?_) #[true, true, true, true, true, true, true, false, false] rfl rfl (by kernel_rfl) (fun _ _ _ h => h) (Or.inl ⟨by rfl, ?_⟩) ?_ ?_
      rotate_left
      · intro w'
        go_simp
        with_reducible rfl
      rotate_left
      · simp only [Act.put, List.setIfInBounds_toArray, List.set_cons_zero, List.set_cons_succ, i64_w, i32_w]
        rfl
      refine take_ (i := 7) (N := some 24) (v := ?_) (a' := ?_) #[true, true, true, true, true, true, true, true, false] rfl rfl (by kernel_rfl) (fun _ _ _ h => h) (Or.inl ⟨by rfl, ?_⟩) hHeld ?_ ?_
      rotate_left
      · rintro w' ⟨s0, s1, s2, s3⟩
        go_simp
        with_reducible rfl
      rotate_left
      · simp only [Act.put, List.setIfInBounds_toArray, List.set_cons_zero, List.set_cons_succ, i64_w, i32_w]
        rfl
      refine pure_ (i := 8) (N := some 25) (v := ?_) (a' := ?_) #[true, true, true, true, true, true, true, true, true] rfl rfl (by kernel_rfl) (fun _ _ _ h => h) (Or.inl ⟨by rfl, ?_⟩) ?_ ?_
      rotate_left
      · intro w'
        go_simp
        with_reducible rfl
      rotate_left
      · simp only [Act.put, List.setIfInBounds_toArray, List.set_cons_zero, List.set_cons_succ, i64_w, i32_w]
        rfl
      refine done_ (by kernel_rfl) ?_
      go_wp2
      go_roundw
      case measure => simp [intOf]; omega
      case rel => exact ⟨i + 1, by omega, by go_num, ⟨Drawn0.step HQ.out 1⟩⟩
    · have f0 : decide ((i : Int) < (l.length : Int)) = false := decide_eq_false (by omega)
      go_wp2
      go_ret
      exact ⟨rfl, HQ.out⟩

end Go.Proofs.Ytjkicljcmognhaa.PInternPlays
