/- What a pool's Put answers. No condition beyond those each theorem names. -/
import Derived.Test.YtjkicljcmognhaaRowB
namespace Go.Proofs.Ytjkicljcmognhaa.PInternPlays
open Go.RowKit Go.Proofs.YtjkicljcmognhaaW.PrintWords Go.Proofs.YtjkicljcmognhaaW.PrintLast Go.Proofs.YtjkicljcmognhaaW.PrintMore
set_option linter.unusedVariables false
set_option linter.unusedSimpArgs false

/-- The number that a Put tells. -/
def putN (room : Nat) (vs : List S31) (v : S31) : Int := if rowE room vs [v] = 0 then num (addOne vs v) v else 0

def PutPost (w : World) (base : Nat) (P : Nat → Prop) (pv : Value) (room : Nat) (vs : List S31) (v : S31) (e : Ending) (w' : World) : Prop :=
  ∃ (P' : Nat → Prop), e = .returned (.tuple #[.int .i64 (putN room vs v), .int .i64 (rowE room vs [v])]) ∧ (∀ k, P' k → P k ∨ w.heap.size ≤ k) ∧ PoolR w' base P' pv room (rowVs room vs [v]) ∧ Below base w w' ∧ Kept w w' P

/-- A value's cells. -/
def cells2 (x : S31) : List Value := [.string x.f0, .int .i64 x.f1]
theorem flat_get : ∀ (l : List S31) (j : Nat) (p : S31), l[j]? = some p → ∀ (i : Nat) (u : Value), (cells2 p)[i]? = some u → (l.flatMap cells2)[j * 2 + i]? = some u
  | [], j, p, h, _, _, _ => by simp at h
  | y :: r, 0, p, h, i, u, hu => by
    simp at h
    subst h
    have hi : i < 2 := by
      have := (List.getElem?_eq_some_iff.1 hu).1
      simpa [cells2] using this
    rw [List.flatMap_cons, List.getElem?_append_left (by simpa [cells2] using hi)]
    simpa using hu
  | y :: r, j + 1, p, h, i, u, hu => by
    have ih := flat_get r j p (by simpa using h) i u hu
    rw [List.flatMap_cons, List.getElem?_append_right (by simp [cells2]; omega)]
    rw [← ih]
    congr 1
    simp [cells2]
    omega
/-- A block whose cells are a list's values is read as that list. -/
theorem C_blk {w : World} {b : Nat} (l : List S31) (hl : l.length ≤ 9223372036854775807) (h : w.heap[b]? = some (.cells (l.flatMap cells2).toArray 31 (0, 0))) : Kd.C k31 w (some ⟨b, 0, none⟩) l.length l := by
  refine ⟨rfl, hl, fun _ => ⟨_, rfl, fun j p hj => ⟨cells2 p, rfl, k31_mk w p, fun i u hu => ?_⟩⟩⟩
  rw [add_plain, blk_cell h]
  have := flat_get l j p hj i u hu
  show (l.flatMap cells2).toArray[j * 2 + i]? = _
  simpa using this

theorem addr_zero (ad : Addr) : ad.add (0 : Int).toNat = ad := by
  show ad.add 0 = ad
  unfold Addr.add
  rw [if_pos rfl]
theorem PoolR.same {w w' : World} {base : Nat} {P : Nat → Prop} {pv : Value} {room : Nat} {vs : List S31} (h : PoolR w base P pv room vs) (hk : Kept w w' (fun _ => False)) : PoolR w' base P pv room vs :=
  h.step (fun k _ hlt => hk.2 k hlt (fun h => h))

theorem put_in {w : World} {base : Nat} {P P' : Nat → Prop} {o1 o2 : Obj} (h : ∀ k, P' k → (P k ∧ k < w.heap.size ∧ base ≤ k) ∨ ((w.alloc o1).alloc o2).heap.size ≤ k) : ∀ k, P' k → P k ∨ w.heap.size ≤ k := fun k hk => by
  rcases h k hk with h | h
  · exact .inl h.1
  · exact .inr (by simp at h; omega)
theorem put_frame {w : World} {base : Nat} {P : Nat → Prop} (hbase : base ≤ w.heap.size) (v : S31) : (∀ {w3 : World}, Below base ((w.alloc (.cells #[.string v.f0, .int .i64 v.f1] 31)).alloc (.cells #[.string v.f0, .int .i64 v.f1] 31)) w3 → Below base w w3) ∧
    (∀ {w3 : World}, Kept ((w.alloc (.cells #[.string v.f0, .int .i64 v.f1] 31)).alloc (.cells #[.string v.f0, .int .i64 v.f1] 31)) w3 (fun k => P k ∧ k < w.heap.size ∧ base ≤ k) → Kept w w3 P) :=
  ⟨fun h => ((below_alloc (below_alloc (Below.refl _ w) _) _).mono hbase).trans h, fun h => (((Kept.refl w P).alloc _).alloc _).then_ h (fun k hk => .inl hk.1)⟩

set_option maxHeartbeats 2000000 in
theorem Put_any {w : World} {base : Nat} {P : Nat → Prop} {pv : Value} {room : Nat} {vs : List S31} (hp : PoolR w base P pv room vs) (hbase : base ≤ w.heap.size) (v : S31) : Calls Try.prog 10 #[pv, vv v] w (PutPost w base P pv room vs v) := by
  have HP := Aside0.mk hp.bound
  have HBS := Aside0.mk hbase
  clear hp
  have HR := Aside0.mk (Row_any (w := (w.alloc (.cells #[.string v.f0, .int .i64 v.f1] 31)).alloc (.cells #[.string v.f0, .int .i64 v.f1] 31)) (HP.out.below (below_alloc (below_alloc (Below.refl _ _) _) _)) (by have := HBS.out; simp; omega) (some ⟨w.heap.size + 1, 0, none⟩) 1 [v] (fun W hk => by
    refine C_blk [v] (by simp) ?_
    have := blk_kept (blk_new (w.alloc (.cells #[.string v.f0, .int .i64 v.f1] 31)) (.cells #[.string v.f0, .int .i64 v.f1] 31)) hk (fun h => by have := h.2.1; simp at this; omega)
    simpa [cells2] using this) (by simp) (by simp))
  have HBS2 := Aside0.mk (put_frame (P := P) hbase v)
  by_cases hE : rowE room vs [v] = 0
  · have hN : putN room vs v = num (addOne vs v) v := by unfold putN; rw [if_pos hE]
    have HN := Aside0.mk hN
    have HE := Aside0.mk hE
    clear hN hE
    unfold vv
    go_enter Try.func10, Try.ntmps10
    go_wp2_with (go_at_call 15; refine HR.out.mono ?_; rintro e w3 ⟨v0, P', rfl, hP', hq, ho, hb, hk⟩; rw [HE.out]; rw [rowNs_zero HE.out] at ho; obtain ⟨A0, c0, ev⟩ := Kd.R_slice ho; subst ev; obtain ⟨ad, ea, hx⟩ := Kd.at_int (Kd.R_reads' ho).2.2 0 (by omega) (by simp); cases ea; have hx2 : w3.cell? ad = some (.int .i64 (num (addOne vs v) v)) := (by rw [addr_zero] at hx; exact hx); have HQ := Aside0.mk (And.intro hP' (And.intro hq (And.intro hb hk))); clear hP' hq ho hb hk hx)
    go_ret2
    exact ⟨P', by rw [HN.out, HE.out]; rfl, put_in HQ.out.1, HQ.out.2.1, HBS2.out.1 HQ.out.2.2.1, HBS2.out.2 HQ.out.2.2.2⟩
  · have hN : putN room vs v = 0 := by unfold putN; rw [if_neg hE]
    have HN := Aside0.mk hN
    have HE := Aside0.mk hE
    have hE2 : (rowE room vs [v] != 0) = true := by rw [bne_iff_ne]; exact hE
    obtain ⟨er, her⟩ : ∃ er, er = rowE room vs [v] := ⟨_, rfl⟩
    have HER := Aside0.mk her
    rw [← her] at hE2
    clear hN hE her
    unfold vv
    go_enter Try.func10, Try.ntmps10
    go_wp2_with (go_at_call 15; refine HR.out.mono ?_; rintro e w3 ⟨v0, P', rfl, hP', hq, ho, hb, hk⟩; rw [← HER.out]; have HQ := Aside0.mk (And.intro hP' (And.intro hq (And.intro hb hk))); clear hP' hq ho hb hk)
    go_ret2
    exact ⟨P', by rw [HN.out, ← HER.out]; rfl, put_in HQ.out.1, HQ.out.2.1, HBS2.out.1 HQ.out.2.2.1, HBS2.out.2 HQ.out.2.2.2⟩

theorem Clear_any {w : World} {base : Nat} {P : Nat → Prop} {pv : Value} {room : Nat} {vs : List S31} (hp : PoolR w base P pv room vs) (hbase : base ≤ w.heap.size) : Calls Try.prog 19 #[pv] w fun e w' => e = .returned (.tuple #[]) ∧ PoolR w' base P pv room [] ∧ Kept w w' P ∧ Below base w w' := by
  rcases hp with ⟨rfl, rfl, rfl⟩ | ⟨pb, rfl, rfl, h⟩
  · exact (Clear_nil w).mono (by rintro e w' ⟨h1, h2⟩; exact ⟨h1, .inl ⟨rfl, rfl, rfl⟩, Kept.of_below h2.below P, h2.below.mono hbase⟩)
  · exact (Clear_calls h).mono (by rintro e w' ⟨h1, h2, h3, h4⟩; exact ⟨h1, .inr ⟨pb, rfl, rfl, h2⟩, h3, h4⟩)

end Go.Proofs.Ytjkicljcmognhaa.PInternPlays
