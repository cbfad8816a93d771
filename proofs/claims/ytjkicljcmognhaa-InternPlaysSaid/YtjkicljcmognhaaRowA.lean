/- What the putting of values comes to, in plain lists. No condition beyond those each theorem names. -/
import Derived.Test.YtjkicljcmognhaaGets
import Derived.Test.YtjkicljcmognhaaGoods
namespace Go.Proofs.Ytjkicljcmognhaa.PInternPlays
open Go.RowKit Go.Proofs.YtjkicljcmognhaaW.PrintWords Go.Proofs.YtjkicljcmognhaaW.PrintLast Go.Proofs.YtjkicljcmognhaaW.PrintMore
set_option linter.unusedVariables false
set_option linter.unusedSimpArgs false

/-- A list of values with one put behind it, unless it is there. -/
def addOne (vs : List S31) (v : S31) : List S31 := if v ∈ vs then vs else vs ++ [v]
/-- .. with several. -/
def addAll (vs ls : List S31) : List S31 := ls.foldl addOne vs
theorem addAll_snoc (vs ls : List S31) (v : S31) : addAll vs (ls ++ [v]) = addOne (addAll vs ls) v := by simp [addAll]
theorem addOne_mem (vs : List S31) (v : S31) : v ∈ addOne vs v := by unfold addOne; split <;> simp_all
theorem addOne_le (vs : List S31) (v : S31) : vs.length ≤ (addOne vs v).length := by unfold addOne; split <;> simp
theorem addOne_pre (vs : List S31) (v : S31) : ∃ t, addOne vs v = vs ++ t := by
  unfold addOne
  split
  · exact ⟨[], by simp⟩
  · exact ⟨[v], rfl⟩
theorem addAll_pre : ∀ (ls vs : List S31), ∃ t, addAll vs ls = vs ++ t
  | [], vs => ⟨[], by simp [addAll]⟩
  | v :: r, vs => by
    obtain ⟨t1, h1⟩ := addOne_pre vs v
    obtain ⟨t2, h2⟩ := addAll_pre r (addOne vs v)
    exact ⟨t1 ++ t2, by show addAll (addOne vs v) r = _; rw [h2, h1, List.append_assoc]⟩
theorem addAll_append (vs a b : List S31) : addAll vs (a ++ b) = addAll (addAll vs a) b := by simp [addAll]
theorem idx_append {a b : List S31} {v : S31} {j : Nat} (h : idx a v = some j) : idx (a ++ b) v = some j := by
  induction a generalizing j with
  | nil => simp [idx] at h
  | cons y r ih =>
    simp only [idx, List.cons_append] at h ⊢
    split
    · rename_i e; rw [if_pos e] at h; exact h
    · rename_i e
      rw [if_neg e] at h
      cases hr : idx r v with
      | none => rw [hr] at h; simp at h
      | some i => rw [hr] at h; rw [ih hr]; exact h
theorem idx_new {a : List S31} {v : S31} (h : idx a v = none) : idx (a ++ [v]) v = some a.length := by
  induction a with
  | nil => simp [idx]
  | cons y r ih =>
    simp only [idx, List.cons_append] at h ⊢
    split at h
    · cases h
    · rename_i e
      rw [if_neg e, ih (by simpa using h)]
      rfl
/-- A value's number as the machine writes it. -/
def num (vs : List S31) (v : S31) : Int := ((idx vs v).map fun j => (j : Int)).getD 0
theorem num_append {a b : List S31} {v : S31} (h : v ∈ a) : num (a ++ b) v = num a v := by
  unfold num
  cases hi : idx a v with
  | none => exact absurd h (idx_none.1 hi)
  | some j => rw [idx_append hi]

/-- A pool, or nil, and how many values it may take. -/
def PoolR (w : World) (base : Nat) (P : Nat → Prop) (pv : Value) (room : Nat) (vs : List S31) : Prop :=
  (pv = .pointer none ∧ room = 0 ∧ vs = []) ∨ ∃ pb, pv = .pointer (some ⟨pb, 0, none⟩) ∧ room = 4096 ∧ PoolAt w base P pb vs
theorem PoolR.v {w : World} {base : Nat} {P : Nat → Prop} {pv : Value} {room : Nat} {vs : List S31} (h : PoolR w base P pv room vs) : PoolV w base P pv vs := by
  rcases h with ⟨h1, h2, h3⟩ | ⟨pb, h1, h2, h3⟩
  · exact .inl ⟨h1, h3⟩
  · exact .inr ⟨pb, h1, h3⟩
theorem PoolR.below {w w' : World} {base : Nat} {P : Nat → Prop} {pv : Value} {room : Nat} {vs : List S31} (h : PoolR w base P pv room vs) (hb : Below w.heap.size w w') : PoolR w' base P pv room vs := by
  rcases h with h | ⟨pb, h1, h2, h3⟩
  · exact .inl h
  · exact .inr ⟨pb, h1, h2, h3.below hb⟩
theorem PoolR.mono {w : World} {base : Nat} {P P' : Nat → Prop} {pv : Value} {room : Nat} {vs : List S31} (h : PoolR w base P pv room vs) (hp : ∀ k, P k → P' k) : PoolR w base P' pv room vs := by
  rcases h with h | ⟨pb, h1, h2, h3⟩
  · exact .inl h
  · exact .inr ⟨pb, h1, h2, h3.mono hp⟩
theorem PoolAt.bound {w : World} {base : Nat} {P : Nat → Prop} {pb : Nat} {vs : List S31} (h : PoolAt w base P pb vs) : PoolAt w base (fun k => P k ∧ k < w.heap.size ∧ base ≤ k) pb vs := by
  obtain ⟨mb, rv, h1, h2, h3, h4, h5, h6, h7, h8⟩ := h
  exact ⟨mb, rv, h1, h2, ⟨h3, blk_lt h1, h2⟩, h4, h5, ⟨h6, h4.lt, h5⟩, Kd.R_mono (Kd.R_bound h7) (fun k hk => ⟨hk.1, hk.2.2.1, hk.2.1⟩), h8⟩
theorem PoolR.bound {w : World} {base : Nat} {P : Nat → Prop} {pv : Value} {room : Nat} {vs : List S31} (h : PoolR w base P pv room vs) : PoolR w base (fun k => P k ∧ k < w.heap.size ∧ base ≤ k) pv room vs := by
  rcases h with h | ⟨pb, h1, h2, h3⟩
  · exact .inl h
  · exact .inr ⟨pb, h1, h2, h3.bound⟩
theorem PoolR.room {w : World} {base : Nat} {P : Nat → Prop} {pv : Value} {room : Nat} {vs : List S31} (h : PoolR w base P pv room vs) : vs.length ≤ room := by
  rcases h with ⟨h1, h2, h3⟩ | ⟨pb, h1, h2, h3⟩
  · subst h3; simp
  · obtain ⟨mb, rv, _, _, _, _, _, _, _, h8⟩ := h3
    omega

/-- The error's number of a Row. -/
def rowE (room : Nat) (vs ls : List S31) : Int := if ls.all goodV = false then 1 else if room < (addAll vs ls).length then 3 else 0
/-- The values behind it. -/
def rowVs (room : Nat) (vs ls : List S31) : List S31 := if rowE room vs ls = 0 then addAll vs ls else vs
/-- The numbers that it tells. -/
def rowNs (room : Nat) (vs ls : List S31) : List Int := if rowE room vs ls = 0 then ls.map (num (addAll vs ls)) else []

/-- What a Row comes to. -/
def RowPost (w : World) (base : Nat) (P : Nat → Prop) (pv : Value) (room : Nat) (vs ls : List S31) (e : Ending) (w' : World) : Prop :=
  ∃ (v0 : Value) (P' : Nat → Prop), e = .returned (.tuple #[v0, .int .i64 (rowE room vs ls)]) ∧ (∀ k, P' k → P k ∨ w.heap.size ≤ k) ∧ PoolR w' base P' pv room (rowVs room vs ls) ∧
    Kd.R (Kd.int .i64) 3 w' w.heap.size (fun k => w.heap.size ≤ k ∧ ¬ P' k) v0 (rowNs room vs ls) ∧ Below base w w' ∧ Kept w w' P

theorem RowPost.bad {w w' : World} {base : Nat} {P : Nat → Prop} {pv : Value} {room : Nat} {vs ls : List S31} {v : Value} (hp : PoolR w base P pv room vs) (hbase : base ≤ w.heap.size) (hb : Below w.heap.size w w') {er : Int} (her : er = rowE room vs ls) (h0 : rowE room vs ls ≠ 0) (hv : v = .slice none 0 0) :
    RowPost w base P pv room vs ls (.returned (.tuple #[v, .int .i64 er])) w' := by
  subst hv
  subst her
  refine ⟨_, P, rfl, fun k hk => .inl hk, ?_, ?_, hb.mono hbase, Kept.of_below hb P⟩
  · unfold rowVs
    rw [if_neg h0]
    exact hp.below hb
  · unfold rowNs
    rw [if_neg h0]
    exact Kd.R_nil _ _ _ _ _

theorem row_keep {l : List S31} {i : Nat} {x : S31} (ht : l.take (i + 1) = l.take i ++ [x]) (h : ∀ y ∈ l.take i, goodV y = true) (hx : goodV x = true) : ∀ y ∈ l.take (i + 1), goodV y = true := by
  rw [ht]
  intro y hy
  rcases List.mem_append.1 hy with hy | hy
  · exact h y hy
  · simp at hy; subst hy; exact hx
theorem row_fresh {l vs : List S31} {i : Nat} {x : S31} {K K' : List S31} (ht : l.take (i + 1) = l.take i ++ [x]) (h : vs ++ K = addAll vs (l.take i)) (hx : x ∉ vs) (hk : K' = if x ∈ K then K else K ++ [x]) : vs ++ K' = addAll vs (l.take (i + 1)) := by
  rw [ht, addAll_snoc, ← h, hk]
  unfold addOne
  by_cases hm : x ∈ K
  · rw [if_pos hm, if_pos (by simp [hm])]
  · rw [if_neg hm, if_neg (by simp [hm, hx])]
    simp

theorem addAll_length_le : ∀ (ls vs : List S31), (addAll vs ls).length ≤ vs.length + ls.length
  | [], vs => by simp [addAll]
  | v :: r, vs => by
    have h := addAll_length_le r (addOne vs v)
    have h2 : (addOne vs v).length ≤ vs.length + 1 := by unfold addOne; split <;> simp
    show (addAll (addOne vs v) r).length ≤ _
    simp only [List.length_cons]
    omega
theorem addAll_length_ge (ls vs : List S31) : vs.length ≤ (addAll vs ls).length := by
  obtain ⟨t, h⟩ := addAll_pre ls vs
  rw [h]
  simp
theorem rowE_three {room : Nat} {vs ls : List S31} (hg : ∀ x ∈ ls, goodV x = true) (hf : room < (addAll vs ls).length) : rowE room vs ls = 3 := by
  unfold rowE
  rw [if_neg, if_pos hf]
  simp only [Bool.not_eq_false]
  exact List.all_eq_true.2 hg
theorem rowE_zero {room : Nat} {vs ls : List S31} (hg : ∀ x ∈ ls, goodV x = true) (hf : ¬ room < (addAll vs ls).length) : rowE room vs ls = 0 := by
  unfold rowE
  rw [if_neg, if_neg hf]
  simp only [Bool.not_eq_false]
  exact List.all_eq_true.2 hg

theorem mem_addAll : ∀ (ls vs : List S31) (y : S31), (y ∈ ls ∨ y ∈ vs) → y ∈ addAll vs ls
  | [], vs, y, h => by
    rcases h with h | h
    · cases h
    · exact h
  | v :: r, vs, y, h => by
    refine mem_addAll r (addOne vs v) y ?_
    rcases h with h | h
    · rcases List.mem_cons.1 h with rfl | h
      · exact .inr (addOne_mem vs y)
      · exact .inl h
    · obtain ⟨t, ht⟩ := addOne_pre vs v
      exact .inr (by rw [ht]; simp [h])
theorem row_num {l vs : List S31} {j : Nat} {x : S31} {ns : List Int} (ht : l.take (j + 1) = l.take j ++ [x]) (h : ns = (l.take j).map (num (addAll vs (l.take j)))) :
    ns ++ [num (addOne (addAll vs (l.take j)) x) x] = (l.take (j + 1)).map (num (addAll vs (l.take (j + 1)))) := by
  rw [ht, addAll_snoc, List.map_append, h]
  congr 1
  refine List.map_congr_left fun y hy => ?_
  obtain ⟨t, e⟩ := addOne_pre (addAll vs (l.take j)) x
  rw [e, num_append (mem_addAll _ _ _ (.inl hy))]
theorem addAll_take_le (l vs : List S31) (j : Nat) : (addAll vs (l.take j)).length ≤ (addAll vs l).length := by
  have h := addAll_append vs (l.take j) (l.drop j)
  rw [List.take_append_drop] at h
  rw [h]
  exact addAll_length_ge _ _
theorem num_some {l : List S31} {x : S31} {m : Nat} (h : idx l x = some m) : num l x = m := by unfold num; rw [h]; rfl
theorem num_new {l : List S31} {x : S31} (h : x ∉ l) : num (addOne l x) x = l.length := by
  unfold addOne num
  rw [if_neg h, idx_new (idx_none.2 h)]
  rfl
theorem addOne_old {l : List S31} {x : S31} (h : x ∈ l) : addOne l x = l := by unfold addOne; rw [if_pos h]
theorem addOne_new {l : List S31} {x : S31} (h : x ∉ l) : addOne l x = l ++ [x] := by unfold addOne; rw [if_neg h]

theorem PoolR.step {w w' : World} {base : Nat} {P : Nat → Prop} {pv : Value} {room : Nat} {vs : List S31} (h : PoolR w base P pv room vs) (hm : ∀ k, P k → k < w.heap.size → w'.heap[k]? = w.heap[k]?) : PoolR w' base P pv room vs := by
  rcases h with h | ⟨pb, h1, h2, h3⟩
  · exact .inl h
  · exact .inr ⟨pb, h1, h2, h3.step hm⟩

/-- A pool whose map has one value more than its list. -/
structure Half (w : World) (base : Nat) (P : Nat → Prop) (pb mb : Nat) (A : Option Addr) (co : Nat) (acc : List S31) (x : S31) : Prop where
  at_ : w.heap[pb]? = some (.cells #[.map (some mb), .slice A acc.length co] 58 (0, 0))
  b1 : base ≤ pb
  p1 : P pb
  map : MapIs w mb (numd (acc ++ [x]) 0)
  b2 : base ≤ mb
  p2 : P mb
  row : Kd.R k31 31 w base P (.slice A acc.length co) acc
  room : acc.length + 1 ≤ 4096

theorem map_ne {w : World} {mb : Nat} {l : List (S31 × Int)} (h : MapIs w mb l) {k : Nat} {cs : Array Value} {e : TypeId} {fr : Nat × Nat} (hk : w.heap[k]? = some (.cells cs e fr)) : k ≠ mb := by
  rintro rfl
  obtain ⟨es, clock, hb, _⟩ := h
  rw [hk] at hb
  cases hb

theorem PoolAt.to_half {w : World} {base : Nat} {P : Nat → Prop} {pb : Nat} {acc : List S31} (h : PoolAt w base P pb acc) {x : S31} (hx : x ∉ acc) (hr : acc.length + 1 ≤ 4096) :
    ∃ mb A co w4, w.cell? ⟨pb, 0, none⟩ = some (.map (some mb)) ∧ w.cell? ⟨pb, 1, none⟩ = some (.slice A acc.length co) ∧ (Instr.mapUpdate 56 (.map (some mb)) (vv x) (.int .i64 acc.length)).run Try.prog w = .ok () w4 ∧ Half w4 base P pb mb A co acc x ∧ Kept w w4 P ∧ Below base w w4 := by
  obtain ⟨mb, rv, h1, h2, h3, h4, h5, h6, h7, h8⟩ := h
  obtain ⟨A, co, rfl⟩ := Kd.R_slice h7
  have hl : look (numd acc 0) x = none := by rw [look_numd, idx_none.2 hx]; rfl
  obtain ⟨w4, hrun, hm4, hg4⟩ := h4.store_new x acc.length hl
  have hne := map_ne h4 h1
  refine ⟨mb, A, co, w4, blk_cell h1 0, blk_cell h1 1, hrun, ⟨blk_grown h1 hg4 (by simpa using hne), h2, h3, ?_, h5, h6, ?_, hr⟩, Kept.of_grown hg4 (Kept.refl w P) (fun k hk => .inl (by cases hk; exact h6)), ?_⟩
  · rw [numd_snoc]
    simpa using hm4
  · refine Kd.R_mono (Kd.R_step (Kd.R_bound h7) (fun k hk hlt => hg4.block k hlt ?_)) (fun k hk => hk.1)
    obtain ⟨_, _, _, q, _, cells, hc⟩ := hk
    have := map_ne h4 hc
    simpa using this
  · refine ⟨hg4.os, hg4.tape, hg4.output, hg4.size, fun k hk => ?_⟩
    by_cases hlt : k < w.heap.size
    · exact hg4.block k hlt (by simp; omega)
    · have := blk_lt h1; omega

theorem Half.done {w w5 : World} {base : Nat} {P : Nat → Prop} {pb mb : Nat} {A : Option Addr} {co : Nat} {acc : List S31} {x : S31} (h : Half w base P pb mb A co acc x) {v1 : Value} (hr : Kd.R k31 31 w5 base (fun k => P k ∨ w.heap.size ≤ k) v1 (acc ++ [x])) (hg : w.grownBy w5 (Value.slice A acc.length co).ownBlock) :
    w5.cell? ⟨pb, 1, none⟩ = some (.slice A acc.length co) ∧ w5.frozen? ⟨pb, 1, none⟩ = false ∧ PoolAt (w5.setCell ⟨pb, 1, none⟩ v1) base (fun k => P k ∨ w.heap.size ≤ k) pb (acc ++ [x]) ∧ Kept w (w5.setCell ⟨pb, 1, none⟩ v1) P ∧ Below base w (w5.setCell ⟨pb, 1, none⟩ v1) := by
  have hne : some pb ≠ (Value.slice A acc.length co).ownBlock := Kd.R_ne h.row h.at_ (by decide)
  have k1 := blk_grown h.at_ hg hne
  have hmb : some mb ≠ (Value.slice A acc.length co).ownBlock := by
    intro e
    obtain ⟨_, _, _, q, _, cells, hc⟩ := (Kd.R_bound h.row).1 mb e.symm
    exact map_ne h.map hc rfl
  have hm5 := h.map.move (hg.block mb h.map.lt hmb)
  have hpm : mb ≠ pb := fun e => map_ne h.map h.at_ e.symm
  refine ⟨blk_cell k1 1, blk_frozen k1 1, ⟨mb, v1, by simpa using blk_set k1 1 v1, h.b1, .inl h.p1, hm5.move (Below.heap_setCell _ _ _ _ hpm), h.b2, .inl h.p2, ?_, by have := h.room; simp; omega⟩, ?_, ?_⟩
  · exact Kd.R_set hr k1 (by decide) 1 v1
  · exact (Kept.of_grown hg (Kept.refl w P) (fun k hk => .inl (h.row.1 k hk))).setCell (.inl h.p1) _
  · refine Below.setCell (Below.trans (Below.refl _ _) ⟨hg.os, hg.tape, hg.output, hg.size, fun k hk => ?_⟩) h.b1 _
    by_cases hlt : k < w.heap.size
    · exact hg.block k hlt (fun e => by have := Kd.R_base h.row k e.symm; omega)
    · have := blk_lt h.at_
      have := h.b1
      omega

theorem Half.drew {w : World} {base : Nat} {P : Nat → Prop} {pb mb : Nat} {A : Option Addr} {co : Nat} {acc : List S31} {x : S31} (h : Half w base P pb mb A co acc x) : Half w.drew base P pb mb A co acc x :=
  ⟨h.at_, h.b1, h.p1, h.map.move rfl, h.b2, h.p2, Kd.R_drew h.row, h.room⟩

theorem below_mid {B : Nat} {w w1 w2 : World} (h : Below B w w1) (hB : B ≤ w1.heap.size) (k : Below w1.heap.size w1 w2) : Below B w w2 :=
  h.trans ⟨k.os, k.tape, k.output, k.size, fun i hi => k.block i (Nat.lt_of_lt_of_le hi hB)⟩

/-- What a round of Row's second loop leaves, where a value is new. -/
theorem push_all {w wr w3 w4 w6 : World} {base : Nat} {P P' : Nat → Prop} {vo : Value} {ns : List Int} (ho : Kd.R (Kd.int .i64) 3 wr w.heap.size (fun k => w.heap.size ≤ k ∧ ¬ P' k) vo ns) (hw : Below wr.heap.size wr w3)
    (hk4 : Kept w3.drew w4 (fun k => P' k ∧ k < wr.heap.size ∧ base ≤ k)) (hb4 : Below base w3.drew w4) (hk6 : Kept w4.drew w6 (fun k => P' k ∧ k < wr.heap.size ∧ base ≤ k)) (hb6 : Below base w4.drew w6)
    (hb : Below base w wr) (hk : Kept w wr P) (hbase : base ≤ w.heap.size) (hp : ∀ k, P' k → P k ∨ w.heap.size ≤ k) :
    Kd.R (Kd.int .i64) 3 w6 w.heap.size (fun k => w.heap.size ≤ k ∧ ¬ (((P' k ∧ k < wr.heap.size ∧ base ≤ k) ∨ w4.heap.size ≤ k) ∧ k < w6.heap.size ∧ base ≤ k)) vo ns ∧ w.heap.size ≤ w6.heap.size ∧ Below base w w6 ∧ Kept w w6 P := by
  have s1 : w.heap.size ≤ wr.heap.size := hk.1
  have s2 : wr.heap.size ≤ w3.heap.size := hw.size
  have s3 : w3.heap.size ≤ w4.heap.size := hk4.1
  have s4 : w4.heap.size ≤ w6.heap.size := hk6.1
  refine ⟨?_, by omega, ?_, ?_⟩
  · have h1 := Kd.R_below (Kd.R_bound ho) hw
    have h2 := Kd.R_kept (Kd.R_drew h1) hk4 (fun k h h' => h.1.2 h'.1)
    have h3 := Kd.R_kept (Kd.R_drew h2) hk6 (fun k h h' => h.1.2 h'.1)
    refine Kd.R_mono h3 (fun k h => ⟨h.1.1, fun h' => ?_⟩)
    rcases h'.1 with h'' | h''
    · exact h.1.2 h''.1
    · have := h.2.2.1
      omega
  · have b1 := (below_mid hb (by omega) hw).drew
    exact (b1.trans hb4).drew.trans hb6
  · have k1 : Kept w w3.drew P := (hk.below hw).drew
    have k2 := k1.then_ hk4 (fun k h => hp k h.1)
    have k3 : Kept w w4.drew P := k2
    exact k3.then_ hk6 (fun k h => hp k h.1)

/-- .. and where that round ends. -/
theorem push_end {w ws w6 : World} {base n4 nr pb : Nat} {P P' : Nat → Prop} {vo : Value} {ns : List Int} {vs' : List S31}
    (hu : Kd.R (Kd.int .i64) 3 ws w.heap.size (fun k => w.heap.size ≤ k ∧ ¬ (((P' k ∧ k < nr ∧ base ≤ k) ∨ n4 ≤ k) ∧ k < ws.heap.size ∧ base ≤ k)) vo ns ∧ w.heap.size ≤ ws.heap.size ∧ Below base w ws ∧ Kept w ws P)
    (hd : PoolAt ws base (fun k => (P' k ∧ k < nr ∧ base ≤ k) ∨ n4 ≤ k) pb vs') (hg : ws.grownBy w6 vo.ownBlock) (hbase : base ≤ w.heap.size) (hp : ∀ k, P' k → P k ∨ w.heap.size ≤ k) (hn : w.heap.size ≤ n4) :
    PoolR w6 base (fun k => ((P' k ∧ k < nr ∧ base ≤ k) ∨ n4 ≤ k) ∧ k < ws.heap.size ∧ base ≤ k) (.pointer (some ⟨pb, 0, none⟩)) 4096 vs' ∧ (∀ k, (((P' k ∧ k < nr ∧ base ≤ k) ∨ n4 ≤ k) ∧ k < ws.heap.size ∧ base ≤ k) → P k ∨ w.heap.size ≤ k) ∧ Below base w w6 ∧ Kept w w6 P := by
  obtain ⟨h1, h2, h3, h4⟩ := hu
  refine ⟨.inr ⟨pb, rfl, rfl, hd.bound.step (fun k hk hlt => hg.block k hlt (fun e => ?_))⟩, fun k hk => ?_, h3.grown hg (by omega) (fun k hk => ?_), Kept.of_grown hg h4 (fun k hk => .inr (h1.1 k hk).1)⟩
  · exact (h1.1 k e.symm).2 hk
  · rcases hk.1 with h | h
    · exact hp k h.1
    · exact .inr (by omega)
  · have := (h1.1 k hk).1
    omega

theorem rowVs_zero {room : Nat} {vs ls : List S31} (h : rowE room vs ls = 0) : rowVs room vs ls = addAll vs ls := by unfold rowVs; rw [if_pos h]
theorem rowNs_zero {room : Nat} {vs ls : List S31} (h : rowE room vs ls = 0) : rowNs room vs ls = ls.map (num (addAll vs ls)) := by unfold rowNs; rw [if_pos h]

end Go.Proofs.Ytjkicljcmognhaa.PInternPlays
