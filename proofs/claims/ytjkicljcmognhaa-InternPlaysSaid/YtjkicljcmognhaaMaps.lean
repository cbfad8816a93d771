/- A map from values to numbers, as a block of memory: what a look-up, a store, an entry, len and clear do to it. No condition beyond those each theorem names. -/
import Derived.Test.YtjkicljcmognhaaPInternPlaysx1
import Derived.WideKeyRuns
import Derived.MapKept
namespace Go.Proofs.Ytjkicljcmognhaa.PInternPlays
open Go.RowKit Go.Proofs.YtjkicljcmognhaaW.PrintWords Go.Proofs.YtjkicljcmognhaaW.PrintLast Go.Proofs.YtjkicljcmognhaaW.PrintMore
set_option linter.unusedVariables false
set_option linter.unusedSimpArgs false

instance decS31 : DecidableEq S31 := fun a b =>
  if h : a.f0 = b.f0 ∧ a.f1 = b.f1 then isTrue (by cases a; cases b; simp_all) else isFalse (fun e => h (by rw [e]; exact ⟨rfl, rfl⟩))

/-- A value as the machine has it. -/
def vv (x : S31) : Value := .agg #[.string x.f0, .int .i64 x.f1]

theorem bytes_beq (a b : ByteArray) : (a.toList == b.toList) = decide (a = b) := by
  rw [ByteArray.toList_eq, ByteArray.toList_eq]
  obtain ⟨⟨x⟩⟩ := a
  obtain ⟨⟨y⟩⟩ := b
  rw [Bool.eq_iff_iff]
  simp

theorem run_eqv (w : World) (x y : S31) : (Op.equal 31 (vv x) (vv y)).run Try.prog w = .ok (decide (x = y)) w := by
  have h := eqA31 9998 w x.f0 y.f0 x.f1 y.f1
  show (Op.equalIn (9998 + 2) 31 _ _).run Try.prog w = _
  rw [show vv x = .agg #[.string x.f0, .int .i64 x.f1] from rfl, show vv y = .agg #[.string y.f0, .int .i64 y.f1] from rfl, h, bytes_beq]
  congr 1
  rw [Bool.eq_iff_iff]
  cases x; cases y
  simp

theorem vv_inj {x y : S31} (h : vv x = vv y) : x = y := by
  cases x; cases y
  unfold vv at h
  injection h with h
  simp at h
  obtain ⟨rfl, rfl⟩ := h
  rfl

/-- Where a value stands in a list of entries, and what it holds. -/
def look : List (S31 × Int) → S31 → Option (Nat × Int)
  | [], _ => none
  | p :: r, v => if v = p.1 then some (0, p.2) else (look r v).map fun q => (q.1 + 1, q.2)

theorem run_find (w : World) (v : S31) : ∀ (es : List MapEntry) (l : List (S31 × Int)) (i : Nat), es.map (fun e => (e.key, e.val)) = l.map (fun p => (vv p.1, Value.int .i64 p.2)) →
    (Instr.findAsking 31 (vv v) es i).run Try.prog w = .ok ((look l v).map fun q => (i + q.1, Value.int .i64 q.2)) w
  | [], [], i, _ => by simp [Instr.findAsking, look]
  | [], _ :: _, _, h => by simp at h
  | _ :: _, [], _, h => by simp at h
  | e :: es, p :: l, i, h => by
    simp only [List.map_cons, List.cons.injEq, Prod.mk.injEq] at h
    obtain ⟨⟨hk, hv⟩, hr⟩ := h
    have ih := run_find w v es l (i + 1) hr
    simp only [Instr.findAsking, Sem.run_bind, hk, run_eqv, Result.andThen_ok]
    by_cases hp : v = p.1
    · simp [hp, look, hv]
    · simp [hp, look, ih]
      cases look l v <;> simp
      omega

/-- Block mb is a map whose entries, in the order in which they came, are l. -/
def MapIs (w : World) (mb : Nat) (l : List (S31 × Int)) : Prop :=
  ∃ es clock, w.heap[mb]? = some (.map es clock) ∧ es.toList.map (fun e => (e.key, e.val)) = l.map (fun p => (vv p.1, Value.int .i64 p.2)) ∧ (∀ e ∈ es.toList, e.born < clock) ∧ (es.toList.map (·.born)).Nodup

theorem MapIs.move {w w' : World} {mb : Nat} {l : List (S31 × Int)} (h : MapIs w mb l) (hm : w'.heap[mb]? = w.heap[mb]?) : MapIs w' mb l := by
  obtain ⟨es, clock, hb, r⟩ := h
  exact ⟨es, clock, hm.trans hb, r⟩
theorem MapIs.lt {w : World} {mb : Nat} {l : List (S31 × Int)} (h : MapIs w mb l) : mb < w.heap.size := by
  obtain ⟨es, clock, hb, r⟩ := h
  exact blk_lt hb
theorem MapIs.made (w : World) : MapIs (w.alloc (.map #[] 0)) w.heap.size [] := ⟨#[], 0, blk_new w _, by simp, by simp, by simp⟩

theorem run_check (w : World) (em : Bool) (v : S31) : (Instr.checkKey em 10000 31 (vv v)).run Try.prog w = .ok () w := by
  have h31 := Try.underlying31
  have hs : ∀ n : Nat, ∀ s : ByteArray, (Instr.checkKey em (n + 1) 9 (.string s)).run Try.prog w = .ok () w := fun n s => by
    simp only [Instr.checkKey, Sem.run_bind, run_underlying Try.underlying9, Result.andThen_ok]
    rfl
  have hi : ∀ n : Nat, ∀ s : Int, (Instr.checkKey em (n + 1) 2 (.int .i64 s)).run Try.prog w = .ok () w := fun n s => by
    simp only [Instr.checkKey, Sem.run_bind, run_underlying Try.underlying2, Result.andThen_ok]
    rfl
  show (Instr.checkKey em (9998 + 1 + 1) 31 (vv v)).run Try.prog w = _
  generalize 9998 = n
  have p0 : (part 9 #[.string v.f0, .int .i64 v.f1] 0).run Try.prog w = .ok (.string v.f0) w := by go_simp
  have p1 : (part 2 #[.string v.f0, .int .i64 v.f1] 1).run Try.prog w = .ok (.int .i64 v.f1) w := by go_simp
  unfold vv
  rw [Instr.checkKey]
  simp only [Sem.run_bind, run_underlying h31, Result.andThen_ok]
  rw [← Array.forIn_toList]
  simp [p0, p1, hs n, hi n]

theorem run_findk (w : World) (v : S31) (es : List MapEntry) (l : List (S31 × Int)) (h : es.map (fun e => (e.key, e.val)) = l.map (fun p => (vv p.1, Value.int .i64 p.2))) :
    (Instr.findKey 31 (vv v) es).run Try.prog w = .ok ((look l v).map fun q => (q.1, Value.int .i64 q.2)) w := by
  rw [run_findKey_eq w (k := 31) (by kernel_rfl), run_find w v es l 0 h]
  simp

theorem zero3 (w : World) : (zeroValue 3).run Try.prog w = .ok (.int .i64 0) w := by kernel_rfl

/-- 'n, ok := m[v]'. -/
theorem MapIs.look_ok {w : World} {mb : Nat} {l : List (S31 × Int)} (h : MapIs w mb l) (v : S31) :
    (Instr.lookup 56 (.map (some mb)) (vv v) true).run Try.prog w = .ok (.tuple #[.int .i64 (((look l v).map (·.2)).getD 0), .bool (look l v).isSome]) w := by
  obtain ⟨es, clock, hb, he, _⟩ := h
  simp only [Instr.lookup, Sem.run_bind, run_underlying Try.underlying56, Result.andThen_ok, MapKept.run_getObj_map hb, run_check, run_findk w v _ l he]
  have hf := run_findk w v _ l he
  cases hl : look l v with
  | none => rw [hl] at hf; simp [hf, zero3]
  | some q => rw [hl] at hf; simp [hf]

/-- 'm[v]'. -/
theorem MapIs.look_one {w : World} {mb : Nat} {l : List (S31 × Int)} (h : MapIs w mb l) (v : S31) :
    (Instr.lookup 56 (.map (some mb)) (vv v) false).run Try.prog w = .ok (.int .i64 (((look l v).map (·.2)).getD 0)) w := by
  obtain ⟨es, clock, hb, he, _⟩ := h
  simp only [Instr.lookup, Sem.run_bind, run_underlying Try.underlying56, Result.andThen_ok, MapKept.run_getObj_map hb, run_check, run_findk w v _ l he]
  have hf := run_findk w v _ l he
  cases hl : look l v with
  | none => rw [hl] at hf; simp [hf, zero3]
  | some q => rw [hl] at hf; simp [hf]

theorem MapIs.len {w : World} {mb : Nat} {l : List (S31 × Int)} (h : MapIs w mb l) (ty : TypeId) : (Builtin.len_ #[56] ty #[.map (some mb)]).run Try.prog w = .ok (.int .i64 l.length) w := by
  obtain ⟨es, clock, hb, he, _⟩ := h
  have hn : es.size = l.length := by have := congrArg List.length he; simpa using this
  simp [Builtin.len_, run_underlying Try.underlying56, MapKept.run_getObj_map hb, goInt, hn]

/-- The world with another object in a block. -/
def putObj (w : World) (b : Nat) (o : Obj) : World := { w with heap := w.heap.setIfInBounds b o }
theorem putObj_same {w : World} {b : Nat} {o o' : Obj} (h : w.heap[b]? = some o) : (putObj w b o').heap[b]? = some o' := (MapKept.heap_set h).1
theorem putObj_grown (w : World) (b : Nat) (o : Obj) : w.grownBy (putObj w b o) (some b) :=
  ⟨rfl, rfl, rfl, by simp [putObj], fun i hi hne => by simp only [putObj]; rw [Array.getElem?_setIfInBounds_ne (fun e => hne (by rw [e]))]⟩

/-- 'm[v] = n', v not there. -/
theorem MapIs.store_new {w : World} {mb : Nat} {l : List (S31 × Int)} (h : MapIs w mb l) (v : S31) (n : Int) (hv : look l v = Option.none) :
    ∃ w', (Instr.mapUpdate 56 (.map (some mb)) (vv v) (.int .i64 n)).run Try.prog w = .ok () w' ∧ MapIs w' mb (l ++ [(v, n)]) ∧ w.grownBy w' (some mb) := by
  obtain ⟨es, clock, hb, he, hc, hd⟩ := h
  refine ⟨putObj w mb (.map (es.push { key := vv v, val := .int .i64 n, born := clock }) (clock + 1)), ?_, ⟨_, _, putObj_same hb, ?_, ?_, ?_⟩, putObj_grown w mb _⟩
  · simp [Instr.mapUpdate, run_underlying Try.underlying56, MapKept.run_getObj_map hb, run_check, run_findk w v _ l he, hv, MapKept.run_setObj_map _ hb, putObj]
  · simp [he]
  · intro e h
    simp at h
    rcases h with h | rfl
    · have := hc e (by simpa using h); omega
    · simp
  · simp only [Array.toList_push, List.map_append, List.map_cons, List.map_nil]
    rw [List.nodup_append]
    refine ⟨hd, by simp, fun a ha b hb => ?_⟩
    simp at hb
    subst hb
    obtain ⟨e, h1, rfl⟩ := List.mem_map.1 ha
    have := hc e h1
    omega

theorem MapIs.cleared {w : World} {mb : Nat} {l : List (S31 × Int)} (h : MapIs w mb l) :
    ∃ w', (∀ ty : TypeId, (Builtin.clear_ #[56] ty #[.map (some mb)]).run Try.prog w = .ok (.tuple #[]) w') ∧ MapIs w' mb [] ∧ w.grownBy w' (some mb) := by
  obtain ⟨es, clock, hb, he, hc, hd⟩ := h
  refine ⟨putObj w mb (.map #[] clock), fun ty => ?_, ⟨_, _, putObj_same hb, by simp, by simp, by simp⟩, putObj_grown w mb _⟩
  simp [Builtin.clear_, run_underlying Try.underlying56, MapKept.run_getObj_map hb, MapKept.run_setObj_map _ hb, putObj]

theorem look_some {v : S31} : ∀ {l : List (S31 × Int)} {q : Nat × Int}, look l v = some q → l[q.1]? = some (v, q.2)
  | [], _, h => by simp [look] at h
  | p :: r, q, h => by
    simp only [look] at h
    split at h
    · rename_i e
      injection h with h
      subst h
      subst e
      rfl
    · cases hr : look r v with
      | none => rw [hr] at h; simp at h
      | some q' =>
        rw [hr] at h
        simp at h
        subst h
        simpa using look_some hr
theorem look_none_keys {v : S31} : ∀ {l : List (S31 × Int)}, look l v = none ↔ v ∉ l.map (·.1)
  | [] => by simp [look]
  | p :: r => by
    simp only [look, List.map_cons, List.mem_cons]
    split
    · simp_all
    · have := @look_none_keys v r
      cases hr : look r v with
      | none => simp_all
      | some q => simp_all
theorem look_snoc {v : S31} {n : Int} : ∀ {l : List (S31 × Int)}, look l v = none → look (l ++ [(v, n)]) v = some (l.length, n)
  | [], _ => by simp [look]
  | p :: r, h => by
    simp only [look] at h
    split at h
    · cases h
    · rename_i hne
      have hr : look r v = none := by simpa using h
      simp [look, hne, look_snoc hr]

theorem same_bits (v : S31) : Instr.sameBits 10000 (vv v) (vv v) = true := by
  show Instr.sameBits (9998 + 1 + 1) (vv v) (vv v) = true
  generalize 9998 = n
  have hb : (v.f0 == v.f0) = true := by
    have : ∀ a : ByteArray, (a == a) = true := fun a => by obtain ⟨⟨x⟩⟩ := a; show (_ : Array UInt8) == _; simp
    exact this _
  simp [vv, Instr.sameBits, hb]

theorem map_modify {α β : Type} {f : α → α} {g : α → β} {h : β → β} (e : ∀ a, g (f a) = h (g a)) : ∀ (l : List α) (j : Nat), (l.modify j f).map g = (l.map g).modify j h
  | [], j => by simp
  | a :: r, 0 => by simp [e]
  | a :: r, j + 1 => by simp [map_modify e r j]
theorem map_modify_same {α β : Type} {f : α → α} {g : α → β} (e : ∀ a, g (f a) = g a) : ∀ (l : List α) (j : Nat), (l.modify j f).map g = l.map g
  | [], j => by simp
  | a :: r, 0 => by simp [e]
  | a :: r, j + 1 => by simp [map_modify_same e r j]
theorem modify_mem {α : Type} {f : α → α} : ∀ (l : List α) (j : Nat) (x : α), x ∈ l.modify j f → x ∈ l ∨ ∃ y ∈ l, x = f y
  | [], j, x, h => by simp at h
  | a :: r, 0, x, h => by
    simp at h
    rcases h with rfl | h
    · exact .inr ⟨a, by simp, rfl⟩
    · exact .inl (by simp [h])
  | a :: r, j + 1, x, h => by
    simp at h
    rcases h with rfl | h
    · exact .inl (by simp)
    · rcases modify_mem r j x h with h | ⟨y, hy, e⟩
      · exact .inl (by simp [h])
      · exact .inr ⟨y, by simp [hy], e⟩

/-- A store at an entry's number. -/
theorem MapIs.at_born {w : World} {mb : Nat} {es : Array MapEntry} {clock : Nat} {l : List (S31 × Int)} (hb : w.heap[mb]? = some (.map es clock)) (he : es.toList.map (fun e => (e.key, e.val)) = l.map (fun p => (vv p.1, Value.int .i64 p.2))) (hc : ∀ e ∈ es.toList, e.born < clock) (hd : (es.toList.map (·.born)).Nodup)
    {e : MapEntry} (hm : e ∈ es.toList) (x : Int) : ∃ w2 l2, (Instr.entryStore 56 (.map (some mb)) (.int .i64 (e.born : Int)) (.int .i64 x)).run Try.prog w = .ok () w2 ∧ MapIs w2 mb l2 ∧ l2.map (·.1) = l.map (·.1) ∧ w.grownBy w2 (some mb) := by
  have hf : (es.findIdx? fun y => (y.born : Int) == (e.born : Int)).isSome = true := by
    rw [Array.findIdx?_isSome]
    simp only [Array.any_eq_true']
    exact ⟨e, by simpa using hm, by simp⟩
  obtain ⟨j, hj⟩ := Option.isSome_iff_exists.1 hf
  refine ⟨putObj w mb (.map (es.modify j fun e => { e with val := .int .i64 x }) clock), l.modify j (fun p => (p.1, x)), ?_, ⟨_, _, putObj_same hb, ?_, ?_, ?_⟩, map_modify_same (f := fun p : S31 × Int => (p.1, x)) (fun _ => rfl) _ _, putObj_grown w mb _⟩
  · simp [Instr.entryStore, MapKept.run_getObj_map hb, asInt, asIntOf, hj, MapKept.run_setObj_map _ hb, putObj]
  · rw [Array.toList_modify, map_modify (h := fun q => (q.1, Value.int .i64 x)) (fun _ => rfl), he, map_modify (f := fun p : S31 × Int => (p.1, x)) (g := fun p => (vv p.1, Value.int .i64 p.2)) (h := fun q => (q.1, Value.int .i64 x)) (fun _ => rfl)]
  · intro y hy
    rw [Array.toList_modify] at hy
    rcases modify_mem _ _ _ hy with hy | ⟨z, hz, rfl⟩
    · exact hc y hy
    · exact hc z hz
  · rw [Array.toList_modify, map_modify_same (f := fun e : MapEntry => { e with val := Value.int .i64 x }) (g := fun e => e.born) (fun _ => rfl)]
    exact hd

/-- 'm[v]++', its parts: the entry, then the store. -/
theorem MapIs.entry {w : World} {mb : Nat} {l : List (S31 × Int)} (h : MapIs w mb l) (v : S31) :
    ∃ w1 l1 b, (Instr.mapEntry 56 (.map (some mb)) (vv v)).run Try.prog w = .ok (.tuple #[.int .i64 (((look l v).map (·.2)).getD 0), .int .i64 b]) w1 ∧ MapIs w1 mb l1 ∧ l1.map (·.1) = (if v ∈ l.map (·.1) then l.map (·.1) else l.map (·.1) ++ [v]) ∧
      ((look l1 v).map (·.2)).getD 0 = ((look l v).map (·.2)).getD 0 ∧ w.grownBy w1 (some mb) ∧ ∀ x : Int, ∃ w2 l2, (Instr.entryStore 56 (.map (some mb)) (.int .i64 b) (.int .i64 x)).run Try.prog w1 = .ok () w2 ∧ MapIs w2 mb l2 ∧ l2.map (·.1) = l1.map (·.1) ∧ w1.grownBy w2 (some mb) := by
  obtain ⟨es, clock, hb, he, hc, hd⟩ := h
  have hf := run_findk w v _ l he
  cases hl : look l v with
  | some q =>
    rw [hl] at hf
    have h1 := look_some hl
    have h2 : (es.toList.map (fun e => (e.key, e.val)))[q.1]? = some (vv v, Value.int .i64 q.2) := by rw [he, List.getElem?_map, h1]; rfl
    rw [List.getElem?_map] at h2
    obtain ⟨e, h3, h4⟩ := Option.map_eq_some_iff.1 h2
    simp only [Prod.mk.injEq] at h4
    have h3' : es[q.1]? = some e := by simpa using h3
    have hmod : (es.modify q.1 fun e => { e with key := vv v }) = es := by
      apply Array.ext_getElem?
      intro i
      rw [Array.getElem?_modify]
      split
      · rename_i e'
        subst e'
        rw [h3']
        simp [← h4.1]
      · rfl
    have hsame : putObj w mb (.map es clock) = w := by
      unfold putObj
      have : w.heap.setIfInBounds mb (.map es clock) = w.heap := by
        apply Array.ext_getElem?
        intro i
        by_cases hi : mb = i
        · subst hi; rw [hb]; exact putObj_same (w := w) (o' := .map es clock) hb
        · exact Array.getElem?_setIfInBounds_ne hi
      rw [this]
    have hrun : (Instr.mapEntry 56 (.map (some mb)) (vv v)).run Try.prog w = .ok (.tuple #[.int .i64 q.2, .int .i64 e.born]) w := by
      have hk : (Instr.keyThatStays e.key (vv v)).run Try.prog w = .ok (vv v) w := by rw [h4.1]; simp [Instr.keyThatStays, same_bits]
      have : ({ w with heap := w.heap.setIfInBounds mb (.map es clock) } : World) = w := hsame
      simp [Instr.mapEntry, run_underlying Try.underlying56, MapKept.run_getObj_map hb, run_check, hf, h3', hk, hmod, MapKept.run_setObj_map _ hb, this, goInt]
    refine ⟨w, l, e.born, ?_, ⟨es, clock, hb, he, hc, hd⟩, ?_, by rw [hl], ⟨rfl, rfl, rfl, Nat.le_refl _, fun _ _ _ => rfl⟩, fun x => MapIs.at_born hb he hc hd (List.mem_of_getElem? h3) x⟩
    · rw [hrun]; rfl
    · rw [if_pos]
      have := mt look_none_keys.2 (by rw [hl]; simp : ¬ look l v = none)
      simpa using this
  | none =>
    rw [hl] at hf
    have hrun : (Instr.mapEntry 56 (.map (some mb)) (vv v)).run Try.prog w = .ok (.tuple #[.int .i64 0, .int .i64 clock]) (putObj w mb (.map (es.push { key := vv v, val := .int .i64 0, born := clock }) (clock + 1))) := by
      simp [Instr.mapEntry, run_underlying Try.underlying56, MapKept.run_getObj_map hb, run_check, hf, zero3, MapKept.run_setObj_map _ hb, putObj, goInt]
    have he1 : (es.push { key := vv v, val := Value.int .i64 0, born := clock }).toList.map (fun e => (e.key, e.val)) = (l ++ [(v, (0 : Int))]).map (fun p => (vv p.1, Value.int .i64 p.2)) := by simp [he]
    have hc1 : ∀ e ∈ (es.push { key := vv v, val := Value.int .i64 0, born := clock }).toList, e.born < clock + 1 := by
      intro e h
      simp at h
      rcases h with h | rfl
      · have := hc e (by simpa using h); omega
      · simp
    have hd1 : ((es.push { key := vv v, val := Value.int .i64 0, born := clock }).toList.map (·.born)).Nodup := by
      simp only [Array.toList_push, List.map_append, List.map_cons, List.map_nil]
      rw [List.nodup_append]
      refine ⟨hd, by simp, fun a ha b hb => ?_⟩
      simp at hb
      subst hb
      obtain ⟨e, h1, rfl⟩ := List.mem_map.1 ha
      have := hc e h1
      omega
    refine ⟨_, l ++ [(v, 0)], clock, hrun, ⟨_, _, putObj_same hb, he1, hc1, hd1⟩, ?_, by rw [look_snoc hl]; rfl, putObj_grown w mb _, fun x => ?_⟩
    · rw [if_neg (look_none_keys.1 hl)]; simp
    · exact MapIs.at_born (e := { key := vv v, val := Value.int .i64 0, born := clock }) (putObj_same hb) he1 hc1 hd1 (by simp) x

end Go.Proofs.Ytjkicljcmognhaa.PInternPlays
