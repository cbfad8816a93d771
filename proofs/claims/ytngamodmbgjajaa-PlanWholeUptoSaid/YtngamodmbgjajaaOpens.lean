/- What an argument that reads as data is in memory, kind by kind; how large it can be. No condition beyond those each theorem names. -/
import Derived.Test.YtngamodmbgjajaaRows
import Derived.Test.YtngamodmbgjajaaWMore
import Derived.Test.YtngamodmbgjajaaWKept
import Derived.Deep.Slices
import Derived.Deep.Strs
import Derived.Lib.SmallJoins
import Derived.ProofKit
import Derived.SizedLaws
import Derived.Below
namespace Go.Proofs.Ytngamodmbgjajaa.Open
open Go.RowKit Go.Proofs.YtngamodmbgjajaaW.PrintWords Go.Proofs.YtngamodmbgjajaaW.PrintLast Go.Proofs.YtngamodmbgjajaaW.PrintMore
open Go.ChangeShapes Go.WideShapes Go.ChangeAt
set_option linter.unusedVariables false
set_option linter.unusedSimpArgs false

abbrev bulk {H : Type} (d : DataW H) : Nat := Rows.uptoBulk d

theorem bulk_pos {H : Type} (d : DataW H) : 1 ≤ bulk d := by
  unfold bulk
  cases d with
  | lit l => cases l <;> simp [Rows.uptoBulk]
  | nil => rw [Rows.uptoBulk]; exact Nat.le_refl _
  | held _ => rw [Rows.uptoBulk]; exact Nat.le_refl _
  | ptr _ => rw [Rows.uptoBulk]; omega
  | slice _ _ => rw [Rows.uptoBulk]; omega
  | agg _ => rw [Rows.uptoBulk]; omega
  | iface _ _ => rw [Rows.uptoBulk]; omega
  | map _ => rw [Rows.uptoBulk]; omega
theorem bulkAll_cons {H : Type} (d : DataW H) (r : List (DataW H)) : Rows.uptoBulkAll (d :: r) = bulk d + Rows.uptoBulkAll r := by rw [Rows.uptoBulkAll]

/-- A list's measure: each element counts at least once. -/
def many {α : Type} (m : α → Nat) : List α → Nat
  | [] => 0
  | x :: r => max 1 (m x) + many m r
theorem many_length {α : Type} (m : α → Nat) : ∀ l : List α, l.length ≤ many m l
  | [] => Nat.le_refl _
  | x :: r => by
    have := many_length m r
    simp only [many, List.length_cons]
    omega
theorem many_mem {α : Type} (m : α → Nat) {x : α} : ∀ {l : List α}, x ∈ l → m x ≤ many m l
  | [], h => by cases h
  | y :: r, h => by
    simp only [many]
    rcases List.mem_cons.1 h with rfl | h
    · omega
    · have := many_mem m h
      omega
theorem many_bulk {H : Type} {α : Type} {m : α → Nat} : ∀ {l : List α} {ds : List (DataW H)}, l.length = ds.length → (∀ (i : Nat) (x : α) (d : DataW H), l[i]? = some x → ds[i]? = some d → m x ≤ bulk d) → many m l ≤ Rows.uptoBulkAll ds
  | [], ds, _, _ => by simp [many]
  | x :: r, [], h, _ => by simp at h
  | x :: r, d :: ds, h, hi => by
    have h1 := hi 0 x d rfl rfl
    have h2 := many_bulk (m := m) (l := r) (ds := ds) (by simpa using h) (fun i x d hx hd => hi (i + 1) x d (by simpa using hx) (by simpa using hd))
    have h3 := bulk_pos d
    rw [bulkAll_cons]
    simp only [many]
    omega

section
variable {H : Type} {enc : TypeId × Value → H} {P : Program} {w : World} {sp : Nat → Bool} {held : Bool} {α β : Type}

/-- What reads as data of type t is of the kind d. m: no larger than the data's bulk. -/
def Opens (enc : TypeId × Value → H) (P : Program) (w : World) (sp : Nat → Bool) (held : Bool) (d : Kd α) (t : TypeId) (m : α → Nat) : Prop :=
  P.cellsOf t = d.sz ∧ ∀ fuel cs x, DataW.trod enc P w 0 sp held fuel t cs = some x → ∃ v, d.K w v cs ∧ m v ≤ bulk x.1

theorem opens_int {t : TypeId} {k : IntKind} (ht : P.underlying t = some (.int k)) (hc : P.cellsOf t = 1) : Opens enc P w sp held (Kd.int k) t (fun _ => 1) := by
  refine ⟨hc, fun fuel cs x h => ?_⟩
  obtain ⟨a, rfl, rfl, _⟩ := DataW.trod_int ht h
  exact ⟨a, rfl, bulk_pos _⟩
theorem opens_string {t : TypeId} (ht : P.underlying t = some .string) (hc : P.cellsOf t = 1) : Opens enc P w sp held Kd.string t (fun s => s.size) := by
  refine ⟨hc, fun fuel cs x h => ?_⟩
  obtain ⟨s, rfl, rfl, _⟩ := DataW.trod_string ht h
  refine ⟨s, rfl, ?_⟩
  show s.size ≤ Rows.uptoBulk (.lit (.string s.data.toList))
  rw [Rows.uptoBulk]
  simp
theorem cells_at {a : Addr} {n : Nat} {cs : List Value} (h : w.cells? 0 a n = some cs) : cs.length = n ∧ ∀ j u, cs[j]? = some u → w.cell? (a.add j) = some u := by
  obtain ⟨_, h1, h2⟩ := World.cells?_some h
  refine ⟨h1, fun j u hu => ?_⟩
  have := (List.getElem?_eq_some_iff.1 hu).1
  rw [h2 j (by omega), hu]

/-- A slice: its elements, each of its kind; how many they are; how large they can be. -/
theorem opens_row {t e : TypeId} {d : Kd α} {m : α → Nat} [Inhabited α] (ht : P.underlying t = some (.slice e)) (he : Opens enc P w sp held d e m) {fuel : Nat} {cs : List Value} {x : DataW H × List MemPlace} (h : DataW.trod enc P w 0 sp held fuel t cs = some x) :
    ∃ (A : Option Addr) (c : Nat) (l : List α), cs = [.slice A l.length c] ∧ l.length ≤ c ∧ d.C w A l.length l ∧ many m l ≤ bulk x.1 ∧ (x.1 = .nil ∧ l = [] ∨ ∃ elems spare, x.1 = .slice elems spare ∧ elems.length = l.length) := by
  rcases Deep.open_slice ht h with ⟨rfl, rfl⟩ | ⟨a, len, cap, m', n, D, Pl, rfl, _, hl, hmax, hm', rfl, hx⟩
  · exact ⟨none, 0, [], rfl, Nat.le_refl _, Kd.C_nil d w, by simp [many], .inl ⟨rfl, rfl⟩⟩
  · have hlm : len ≤ m' := by rw [hm']; split <;> omega
    obtain ⟨V, hV⟩ := Deep.choose_lt (α := α) (n := len) (p := fun i v => ∃ cs', w.cells? 0 (a.add (i * P.cellsOf e)) (P.cellsOf e) = some cs' ∧ d.K w v cs' ∧ m v ≤ bulk (D i)) (fun i hi => by
      obtain ⟨cs', h1, h2⟩ := hx i (by omega)
      obtain ⟨v, h3, h4⟩ := he.2 _ _ _ h2
      exact ⟨v, cs', h1, h3, h4⟩)
    have hget : ∀ i v, ((List.range len).map V)[i]? = some v → i < len ∧ v = V i := by
      intro i v hv
      rw [List.getElem?_map] at hv
      obtain ⟨j, hj, rfl⟩ := Option.map_eq_some_iff.1 hv
      obtain ⟨hlt, e1⟩ := List.getElem?_eq_some_iff.1 hj
      simp at hlt e1
      subst e1
      exact ⟨hlt, rfl⟩
    have hlen : ((List.range len).map V).length = len := by simp
    refine ⟨some a, cap, (List.range len).map V, by rw [hlen], by rw [hlen]; exact hl, ⟨rfl, by rw [hlen]; unfold maxLen at hmax; omega, fun _ => ⟨a, rfl, fun j p hj => ?_⟩⟩, ?_, .inr ⟨_, _, rfl, by simp⟩⟩
    · obtain ⟨hlt, rfl⟩ := hget j p hj
      obtain ⟨cs', h1, h2, _⟩ := hV j hlt
      obtain ⟨h3, h4⟩ := cells_at h1
      refine ⟨cs', by rw [h3, he.1], h2, fun i u hu => ?_⟩
      rw [← he.1, ← Deep.add_add]
      exact h4 i u hu
    · show many m _ ≤ Rows.uptoBulk _
      rw [Rows.uptoBulk]
      have : many m ((List.range len).map V) ≤ Rows.uptoBulkAll ((List.range len).map D) := many_bulk (by simp) (fun i v dd hv hd => by
        obtain ⟨hlt, rfl⟩ := hget i v hv
        rw [List.getElem?_map] at hd
        obtain ⟨j, hj, rfl⟩ := Option.map_eq_some_iff.1 hd
        obtain ⟨_, e1⟩ := List.getElem?_eq_some_iff.1 hj
        simp at e1
        subst e1
        obtain ⟨_, _, _, h⟩ := hV i hlt
        exact h)
      omega
theorem opens_slice {t e : TypeId} {d : Kd α} {m : α → Nat} [Inhabited α] (ht : P.underlying t = some (.slice e)) (hc : P.cellsOf t = 1) (he : Opens enc P w sp held d e m) : Opens enc P w sp held (Kd.slice e d) t (many m) := by
  refine ⟨hc, fun fuel cs x h => ?_⟩
  obtain ⟨A, c, l, rfl, h1, h2, h3, _⟩ := opens_row ht he h
  exact ⟨l, ⟨A, c, rfl, h1, h2⟩, h3⟩
theorem opens_iso {t : TypeId} {d : Kd α} {m : α → Nat} {f : β → α} {g : α → β} (hfg : ∀ a, f (g a) = a) (h : Opens enc P w sp held d t m) : Opens enc P w sp held (Kd.iso d f) t (fun b => m (f b)) := by
  refine ⟨h.1, fun fuel cs x hx => ?_⟩
  obtain ⟨v, h1, h2⟩ := h.2 fuel cs x hx
  exact ⟨g v, by show d.K w (f (g v)) cs; rw [hfg]; exact h1, by show m (f (g v)) ≤ _; rw [hfg]; exact h2⟩

theorem bulkAll2 (a b : DataW H) : bulk a + bulk b ≤ bulk (.agg [a, b]) := by unfold bulk; simp only [Rows.uptoBulk, Rows.uptoBulkAll]; omega
theorem bulkAll3 (a b c : DataW H) : bulk a + (bulk b + bulk c) ≤ bulk (.agg [a, b, c]) := by unfold bulk; simp only [Rows.uptoBulk, Rows.uptoBulkAll]; omega
theorem bulkAll4 (a b c d : DataW H) : bulk a + (bulk b + (bulk c + bulk d)) ≤ bulk (.agg [a, b, c, d]) := by unfold bulk; simp only [Rows.uptoBulk, Rows.uptoBulkAll]; omega

theorem opens2 {γ0 γ1 : Type} {t : TypeId} {f0 f1 : Field} {d0 : Kd γ0} {d1 : Kd γ1} {m0 : γ0 → Nat} {m1 : γ1 → Nat} (ht : P.underlying t = some (.struct #[f0, f1])) (hc : P.cellsOf t = d0.sz + d1.sz)
    (h0 : Opens enc P w sp held d0 f0.type m0) (h1 : Opens enc P w sp held d1 f1.type m1) (o0 : f0.offset = 0) (o1 : f1.offset = d0.sz) : Opens enc P w sp held (Kd.pair d0 d1) t (fun x => m0 x.1 + m1 x.2) := by
  refine ⟨hc, fun fuel cs x hx => ?_⟩
  obtain ⟨y0, y1, n, rfl, hl, a0, a1⟩ := trod_struct2 ht hx
  obtain ⟨v0, k0, b0⟩ := h0.2 _ _ _ a0
  obtain ⟨v1, k1, b1⟩ := h1.2 _ _ _ a1
  rw [o0, h0.1, List.drop_zero] at k0
  rw [o1, h1.1, List.take_of_length_le (by rw [List.length_drop, hl, hc]; omega)] at k1
  exact ⟨(v0, v1), ⟨_, _, (List.take_append_drop d0.sz cs).symm, k0, k1⟩, Nat.le_trans (Nat.add_le_add b0 b1) (bulkAll2 _ _)⟩

theorem cut3 {l : List Value} {a b c : Nat} (h : l.length = a + (b + c)) : l = l.take a ++ ((l.drop a).take b ++ (l.drop (a + b)).take c) := by
  rw [List.take_of_length_le (l := l.drop (a + b)) (by rw [List.length_drop]; omega), ← List.drop_drop, List.take_append_drop, List.take_append_drop]
theorem opens3 {γ0 γ1 γ2 : Type} {t : TypeId} {f0 f1 f2 : Field} {d0 : Kd γ0} {d1 : Kd γ1} {d2 : Kd γ2} {m0 : γ0 → Nat} {m1 : γ1 → Nat} {m2 : γ2 → Nat} (ht : P.underlying t = some (.struct #[f0, f1, f2])) (hc : P.cellsOf t = d0.sz + (d1.sz + d2.sz))
    (h0 : Opens enc P w sp held d0 f0.type m0) (h1 : Opens enc P w sp held d1 f1.type m1) (h2 : Opens enc P w sp held d2 f2.type m2) (o0 : f0.offset = 0) (o1 : f1.offset = d0.sz) (o2 : f2.offset = d0.sz + d1.sz) :
    Opens enc P w sp held (Kd.pair d0 (Kd.pair d1 d2)) t (fun x => m0 x.1 + (m1 x.2.1 + m2 x.2.2)) := by
  refine ⟨hc, fun fuel cs x hx => ?_⟩
  obtain ⟨y0, y1, y2, n, rfl, hl, a0, a1, a2⟩ := Deep.trod_struct3 ht hx
  obtain ⟨v0, k0, b0⟩ := h0.2 _ _ _ a0
  obtain ⟨v1, k1, b1⟩ := h1.2 _ _ _ a1
  obtain ⟨v2, k2, b2⟩ := h2.2 _ _ _ a2
  rw [o0, h0.1, List.drop_zero] at k0
  rw [o1, h1.1] at k1
  rw [o2, h2.1] at k2
  exact ⟨(v0, v1, v2), ⟨_, _, cut3 (hl.trans hc), k0, ⟨_, _, rfl, k1, k2⟩⟩, Nat.le_trans (Nat.add_le_add b0 (Nat.add_le_add b1 b2)) (bulkAll3 _ _ _)⟩

theorem cut4 {l : List Value} {a b c d : Nat} (h : l.length = a + (b + (c + d))) : l = l.take a ++ ((l.drop a).take b ++ ((l.drop (a + b)).take c ++ (l.drop (a + b + c)).take d)) := by
  rw [List.take_of_length_le (l := l.drop (a + b + c)) (by rw [List.length_drop]; omega), ← List.drop_drop (i := c), List.take_append_drop, ← List.drop_drop, List.take_append_drop, List.take_append_drop]
theorem opens4 {γ0 γ1 γ2 γ3 : Type} {t : TypeId} {f0 f1 f2 f3 : Field} {d0 : Kd γ0} {d1 : Kd γ1} {d2 : Kd γ2} {d3 : Kd γ3} {m0 : γ0 → Nat} {m1 : γ1 → Nat} {m2 : γ2 → Nat} {m3 : γ3 → Nat} (ht : P.underlying t = some (.struct #[f0, f1, f2, f3])) (hc : P.cellsOf t = d0.sz + (d1.sz + (d2.sz + d3.sz)))
    (h0 : Opens enc P w sp held d0 f0.type m0) (h1 : Opens enc P w sp held d1 f1.type m1) (h2 : Opens enc P w sp held d2 f2.type m2) (h3 : Opens enc P w sp held d3 f3.type m3) (o0 : f0.offset = 0) (o1 : f1.offset = d0.sz) (o2 : f2.offset = d0.sz + d1.sz) (o3 : f3.offset = d0.sz + d1.sz + d2.sz) :
    Opens enc P w sp held (Kd.pair d0 (Kd.pair d1 (Kd.pair d2 d3))) t (fun x => m0 x.1 + (m1 x.2.1 + (m2 x.2.2.1 + m3 x.2.2.2))) := by
  refine ⟨hc, fun fuel cs x hx => ?_⟩
  obtain ⟨y0, y1, y2, y3, n, rfl, hl, a0, a1, a2, a3⟩ := Joins.trod_struct4 ht hx
  obtain ⟨v0, k0, b0⟩ := h0.2 _ _ _ a0
  obtain ⟨v1, k1, b1⟩ := h1.2 _ _ _ a1
  obtain ⟨v2, k2, b2⟩ := h2.2 _ _ _ a2
  obtain ⟨v3, k3, b3⟩ := h3.2 _ _ _ a3
  rw [o0, h0.1, List.drop_zero] at k0
  rw [o1, h1.1] at k1
  rw [o2, h2.1] at k2
  rw [o3, h3.1] at k3
  exact ⟨(v0, v1, v2, v3), ⟨_, _, cut4 (hl.trans hc), k0, ⟨_, _, rfl, k1, ⟨_, _, rfl, k2, k3⟩⟩⟩, Nat.le_trans (Nat.add_le_add b0 (Nat.add_le_add b1 (Nat.add_le_add b2 b3))) (bulkAll4 _ _ _ _)⟩

end
end Go.Proofs.Ytngamodmbgjajaa.Open
