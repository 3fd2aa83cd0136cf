/- Any operation on a clock. -/
import Derived.Test.YtdklncgijnhodaaDo0
import Derived.Test.YtdklncgijnhodaaDo1
import Derived.Test.YtdklncgijnhodaaDo2
set_option linter.unusedVariables false
namespace Go.Proofs.Ytdklncgijnhodaa.Do
open Go.RowKit Go.ChangeShapes Go.WideShapes Go.ChangeAt Go.Proofs.Ytdklncgijnhodaa.Pr Go.Proofs.Ytdklncgijnhodaa.Plain Go.Proofs.Ytdklncgijnhodaa.DoPl Go.Proofs.YtdklncgijnhodaaW.PrintWords Go.Proofs.YtdklncgijnhodaaW.PrintLast
set_option maxHeartbeats 16000000 in
set_option maxRecDepth 100000 in
theorem do3 (w0 w : World) (g gm : Nat) (lo' hi' ep kd tk x y : Int) (hI : IsS36 w0 w g lo' hi' ep) (hM : w.heap[gm]? = some (.cells #[.int .i64 lo', .int .i64 hi', .int .i64 ep] 38 (0, 0))) (hgm : w0.heap.size ≤ gm) (hB : Below w0.heap.size w0 w) (hO : Okay lo' hi' ep) (k0 : kd ≠ 0) (k1 : kd ≠ 1) (k2 : kd ≠ 2) :
    Calls Try.prog 14 #[.pointer (some ⟨g, 0, none⟩), .pointer (some ⟨gm, 0, none⟩), .agg #[.int .i64 kd, .int .i64 tk, .int .i64 x, .int .i64 y]] w (DoPost w0 w g gm lo' hi' ep) := by
  have hne : gm ≠ g := blk_ne hM hI.1 (by decide)
  have hlt : g < w.heap.size := blk_lt hI.1
  have hltm : gm < w.heap.size := blk_lt hM
  have I4 := Aside0.mk (is_below hI (below_alloc (Below.refl _ _) (.cells #[.int .i64 kd, .int .i64 tk, .int .i64 x, .int .i64 y] 40)))
  have M4 := Aside0.mk (blk_alloc hM (.cells #[.int .i64 kd, .int .i64 tk, .int .i64 x, .int .i64 y] 40))
  have B4 := Aside0.mk (below_alloc hB (.cells #[.int .i64 kd, .int .i64 tk, .int .i64 x, .int .i64 y] 40))
  have H3 := Aside0.mk (Ste.refl hO)
  have K4 := Aside0.mk (show ∀ i o, w.heap[i]? = some o → i ≠ g → i ≠ gm → (w.alloc (.cells #[.int .i64 kd, .int .i64 tk, .int .i64 x, .int .i64 y] 40)).heap[i]? = some o from fun i o h h1 h2 => blk_alloc h _)
  have d0 : decide (kd = 0) = false := decide_eq_false k0
  have d1 : decide (kd = 1) = false := decide_eq_false k1
  have d2 : decide (kd = 2) = false := decide_eq_false k2
  clear hI hM hB hO
  have hu38 := Try.underlying38
  have hu25 := Try.underlying25
  go_enter Try.func14, Try.ntmps14
  go_wp2_with fail
  obtain ⟨w4, hw4⟩ : ∃ w4, w.alloc (.cells #[.int .i64 kd, .int .i64 tk, .int .i64 x, .int .i64 y] 40) = w4 := ⟨_, rfl⟩
  rw [hw4] at I4 M4 B4 K4 ⊢
  clear hw4
  have s4 := c3 (w := w4.drew) M4.out
  go_wp2_with fail
  go_region_held3 (fun w' => w'.cell? ⟨gm, 0, none⟩ = some (.int .i64 lo') ∧ w'.cell? ⟨gm, 1, none⟩ = some (.int .i64 hi') ∧ w'.cell? ⟨gm, 2, none⟩ = some (.int .i64 ep)) (first | (with_reducible exact s4) | (with_reducible exact s5) | (with_reducible exact s6) | (trace_state; fail))
    (first
      | (go_at_call 18; refine (remanence_Clock_Now.calls g lo' hi' ep _ _ _ _ _ w0 _ (by first | exact I4.out | exact is_below I4.out (below_drew (Below.refl _ _))) (by first | exact B4.out | exact below_step B4.out (below_drew (Below.refl _ _))) rfl).mono ?_; rintro e w5 ⟨rfl, hi5, hb5, hk5⟩; have M5 := Aside0.mk (keep_blk (w := w4) M4.out hk5 hne); have s5 := c3 M5.out)
      | (go_at_call 19; refine (remanence_Clock_Epoch.calls g lo' hi' ep _ _ _ _ w0 _ hi5 hb5 rfl).mono ?_; rintro e w6 ⟨rfl, hi6, hb6, hk6⟩; have M6 := Aside0.mk (keep_blk M5.out hk6 hne); have s6 := c3 M6.out))
  go_wp2
  go_ret
  exact ⟨lo', hi', ep, rfl, hi6, M6.out, hb6, H3.out, fun i o h h1 h2 => keep_blk (keep_blk (w := w4) (K4.out i o h h1 h2) hk5 h1) hk6 h1⟩
theorem do_any (w0 w : World) (g gm : Nat) (lo hi ep kd tk x y : Int) (hI : IsS36 w0 w g lo hi ep) (hM : w.heap[gm]? = some (.cells #[.int .i64 lo, .int .i64 hi, .int .i64 ep] 38 (0, 0))) (hgm : w0.heap.size ≤ gm) (hB : Below w0.heap.size w0 w) (hO : Okay lo hi ep) :
    Calls Try.prog 14 #[.pointer (some ⟨g, 0, none⟩), .pointer (some ⟨gm, 0, none⟩), .agg #[.int .i64 kd, .int .i64 tk, .int .i64 x, .int .i64 y]] w (DoPost w0 w g gm lo hi ep) := by
  by_cases k0 : kd = 0
  · subst k0
    exact do0 w0 w g gm lo hi ep tk x y hI hM hgm hB hO
  by_cases k1 : kd = 1
  · subst k1
    exact do1 w0 w g gm lo hi ep tk x y hI hM hgm hB hO
  by_cases k2 : kd = 2
  · subst k2
    exact do2 w0 w g gm lo hi ep tk x y hI hM hgm hB hO
  exact do3 w0 w g gm lo hi ep kd tk x y hI hM hgm hB hO k0 k1 k2
end Go.Proofs.Ytdklncgijnhodaa.Do
