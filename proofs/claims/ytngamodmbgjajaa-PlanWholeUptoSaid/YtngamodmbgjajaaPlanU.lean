/- The plan's closure: is a term a value, or a bound variable? No condition beyond those each theorem names. -/
import Derived.Test.YtngamodmbgjajaaPlanS
namespace Go.Proofs.Ytngamodmbgjajaa.PPlanOrders
open Go.RowKit Go.Proofs.YtngamodmbgjajaaW.PrintWords Go.Proofs.YtngamodmbgjajaaW.PrintLast Go.Proofs.YtngamodmbgjajaaW.PrintMore
set_option linter.unusedVariables false
set_option linter.unusedSimpArgs false

set_option maxHeartbeats 1000000 in
theorem bound_calls (w : World) (t : S50) (g : Nat) (Ah : Option Addr) (ch : Nat) (have_ : List ByteArray) (hcell : w.heap[g]? = some (.cells #[.slice Ah have_.length ch] 38 (0, 0))) (hC : Kd.C Kd.string w Ah have_.length have_) (hc : have_.length ≤ ch) (hl : have_.length ≤ 200000000) :
    Calls Try.prog 25 #[.agg #[.string t.f0, .string t.f1.f0, .int .i64 t.f1.f1], .pointer (some ⟨g, 0, none⟩)] w fun e w' => e = .returned (.bool (isKnown have_ t)) ∧ Below w.heap.size w w' := by
  obtain ⟨o, ho⟩ : ∃ o, o = Obj.cells #[.string t.f0, .string t.f1.f0, .int .i64 t.f1.f1] 50 := ⟨_, rfl⟩
  have HB := Aside0.mk (below_alloc (Below.refl _ w) (.cells #[.string t.f0, .string t.f1.f0, .int .i64 t.f1.f1] 50))
  have x0 := blk_cell (blk_new w (.cells #[.string t.f0, .string t.f1.f0, .int .i64 t.f1.f1] 50)) 0
  have x1 := blk_cell (blk_alloc hcell (.cells #[.string t.f0, .string t.f1.f0, .int .i64 t.f1.f1] 50)) 0
  have HC := Aside0.mk (Kd.C_below hC HB.out)
  have HCC := Aside0.mk hc
  have HCT := Aside0.mk (cont_s have_ t.f0 (by omega) (k := 300000000) (by omega))
  clear hcell hC hc hl ho
  by_cases h0 : t.f0.size = 0
  · have e0 : (t.f0.toList == ([] : List UInt8)) = true := by rw [beq_iff_eq]; exact (bytes_nil _).2 h0
    have hk : isKnown have_ t = true := by unfold isKnown; rw [decide_eq_true h0]; rfl
    rw [hk]
    go_enter Try.func25, Try.ntmps25
    go_wp2
    go_ret
    exact ⟨rfl, HB.out⟩
  · have e0 : (t.f0.toList == ([] : List UInt8)) = false := by rw [beq_eq_false_iff_ne]; exact fun h => h0 ((bytes_nil _).1 h)
    have hk : isKnown have_ t = decide (t.f0 ∈ have_) := by unfold isKnown; rw [decide_eq_false h0]; rfl
    rw [hk]
    go_enter Try.func25, Try.ntmps25
    go_wp2_with (go_at_call 26; refine Calls.mono (slices_Contains_string_string.calls 300000000 Ah ch have_ t.f0 _ _ HC.out HCC.out HCT.out) ?_; rintro e w2 ⟨rfl, ⟨nd, rfl⟩⟩)
    go_ret
    exact ⟨rfl, pw_below_drewN HB.out _⟩

end Go.Proofs.Ytngamodmbgjajaa.PPlanOrders
