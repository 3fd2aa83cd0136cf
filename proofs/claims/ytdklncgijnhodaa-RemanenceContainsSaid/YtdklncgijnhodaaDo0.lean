/- One kind of operation on a clock. -/
import Derived.Test.YtdklncgijnhodaaDoD
set_option linter.unusedVariables false
namespace Go.Proofs.Ytdklncgijnhodaa.Do
open Go.RowKit Go.ChangeShapes Go.WideShapes Go.ChangeAt Go.Proofs.Ytdklncgijnhodaa.Pr Go.Proofs.Ytdklncgijnhodaa.Plain Go.Proofs.Ytdklncgijnhodaa.DoPl Go.Proofs.YtdklncgijnhodaaW.PrintWords Go.Proofs.YtdklncgijnhodaaW.PrintLast
set_option maxHeartbeats 16000000 in
set_option maxRecDepth 100000 in
theorem do0 (w0 w : World) (g gm : Nat) (lo hi ep tk x y : Int) (hI : IsS36 w0 w g lo hi ep) (hM : w.heap[gm]? = some (.cells #[.int .i64 lo, .int .i64 hi, .int .i64 ep] 38 (0, 0))) (hgm : w0.heap.size ≤ gm) (hB : Below w0.heap.size w0 w) (hO : Okay lo hi ep) :
    Calls Try.prog 14 #[.pointer (some ⟨g, 0, none⟩), .pointer (some ⟨gm, 0, none⟩), .agg #[.int .i64 0, .int .i64 tk, .int .i64 x, .int .i64 y]] w (DoPost w0 w g gm lo hi ep) := by
  have hne : gm ≠ g := blk_ne hM hI.1 (by decide)
  have hlt : g < w.heap.size := blk_lt hI.1
  have hltm : gm < w.heap.size := blk_lt hM
  have I1 := Aside0.mk (is_below hI (below_alloc (Below.refl _ _) (.cells #[.int .i64 0, .int .i64 tk, .int .i64 x, .int .i64 y] 40)))
  have M1 := Aside0.mk (blk_alloc hM (.cells #[.int .i64 0, .int .i64 tk, .int .i64 x, .int .i64 y] 40))
  have T1 := Aside0.mk (blk_new w (.cells #[.int .i64 0, .int .i64 tk, .int .i64 x, .int .i64 y] 40))
  have B1 := Aside0.mk (below_alloc hB (.cells #[.int .i64 0, .int .i64 tk, .int .i64 x, .int .i64 y] 40))
  have HL := Aside0.mk hB.size
  obtain ⟨er, lo', hi', h1, h2, h3, h4⟩ := run_same 0 tk hO
  obtain ⟨st, hst⟩ : ∃ st, st = Ste lo hi ep lo' hi' ep := ⟨_, rfl⟩
  have H1 := Aside0.mk h1
  have H2 := Aside0.mk h2
  have H3 := Aside0.mk h3
  clear h1 h2 h3 hI hM hB hO hst st
  have hu38 := Try.underlying38
  have hu25 := Try.underlying25
  go_enter Try.func14, Try.ntmps14
  go_wp2_with fail
  refine (remanence_Clock_Run.calls g lo hi ep tk er lo' hi' ep w0 _ I1.out B1.out H1.out).mono ?_
  rintro e w2 ⟨rfl, hi2, hb2, hk2⟩
  have I2 := Aside0.mk hi2
  have B2 := Aside0.mk hb2
  have M2 := Aside0.mk (keep_blk M1.out hk2 hne)
  have T2 := Aside0.mk (keep_blk T1.out hk2 (by omega))
  have K2 := Aside0.mk (show ∀ i o, w.heap[i]? = some o → i ≠ g → w2.heap[i]? = some o from fun i o h h1 => keep_blk (blk_alloc h _) hk2 h1)
  have hs2 : w.heap.size < w2.heap.size := blk_lt T2.out
  clear hi2 hb2 hk2 I1 B1 M1 T1
  obtain ⟨m0, m1, m2⟩ := c3 (w := w2.drew) M2.out
  have t2 : w2.drew.cell? ⟨w.heap.size, 1, none⟩ = some (.int .i64 tk) := (blk_cell T2.out 1).trans rfl
  have HNZ := Aside0.mk (show w.heap.size ≠ gm by omega)
  go_wp2_with fail
  go_region_with
    (first
      | (go_at_call 29; refine (trickleref09_Run.calls 1 lo hi ep tk lo' hi' ep er _ H2.out).mono ?_; rintro e w3 ⟨rfl, hb3⟩; have k3 : Below w2.heap.size w2 w3 := (by first | exact hb3 | exact Below.trans (below_drew (Below.refl _ _)) hb3); have M3 := Aside0.mk (blk_below M2.out k3); have T3 := Aside0.mk (blk_below T2.out k3); have t3 : w3.cell? ⟨w.heap.size, 1, none⟩ = some (.int .i64 tk) := (blk_cell T3.out 1).trans rfl; have z0 : w3.cell? ⟨gm, 0, none⟩ = some (.int .i64 lo) := (blk_cell M3.out 0).trans rfl; have z1 : w3.cell? ⟨gm, 1, none⟩ = some (.int .i64 hi) := (blk_cell M3.out 1).trans rfl; have z2 : w3.cell? ⟨gm, 2, none⟩ = some (.int .i64 ep) := (blk_cell M3.out 2).trans rfl; have y0 := blk_frozen M3.out 0; have y1 := blk_frozen M3.out 1; have y2 := blk_frozen M3.out 2))
  all_goals
    have I4 := Aside0.mk (show IsS36 w0 (((w3.setCell ⟨gm, 0, none⟩ (.int .i64 lo')).setCell ⟨gm, 1, none⟩ (.int .i64 hi')).setCell ⟨gm, 2, none⟩ (.int .i64 ep)) g lo' hi' ep from is_far (is_far (is_far (is_below I2.out k3) hne.symm) hne.symm) hne.symm)
    have M4 := Aside0.mk (show (((w3.setCell ⟨gm, 0, none⟩ (.int .i64 lo')).setCell ⟨gm, 1, none⟩ (.int .i64 hi')).setCell ⟨gm, 2, none⟩ (.int .i64 ep)).heap[gm]? = some (.cells #[.int .i64 lo', .int .i64 hi', .int .i64 ep] 38 (0, 0)) from blk_put (blk_put (blk_put M3.out 0 _ rfl) 1 _ rfl) 2 _ rfl)
    have B4 := Aside0.mk (show Below w0.heap.size w0 (((w3.setCell ⟨gm, 0, none⟩ (.int .i64 lo')).setCell ⟨gm, 1, none⟩ (.int .i64 hi')).setCell ⟨gm, 2, none⟩ (.int .i64 ep)) from below_set (below_set (below_set (below_step B2.out k3) hgm) hgm) hgm)
    have K4 := Aside0.mk (show ∀ i o, w.heap[i]? = some o → i ≠ g → i ≠ gm → (((w3.setCell ⟨gm, 0, none⟩ (.int .i64 lo')).setCell ⟨gm, 1, none⟩ (.int .i64 hi')).setCell ⟨gm, 2, none⟩ (.int .i64 ep)).heap[i]? = some o from fun i o h h1 h2 => far1 (far1 (far1 (blk_below (K2.out i o h h1) k3) h2) h2) h2)
    obtain ⟨w4, hw4⟩ : ∃ w4, (((w3.setCell ⟨gm, 0, none⟩ (.int .i64 lo')).setCell ⟨gm, 1, none⟩ (.int .i64 hi')).setCell ⟨gm, 2, none⟩ (.int .i64 ep)) = w4 := ⟨_, rfl⟩
    rw [hw4] at I4 M4 B4 K4 ⊢
    clear hw4 hb3 k3 M3 T3 t3 z0 z1 z2 y0 y1 y2 m0 m1 m2 t2 I2 B2 M2 T2
    have h5 := h4
    rcases h4 with rfl | rfl
    all_goals
      have s4 := c3 (w := w4.drew) M4.out
      go_wp2_with fail
      go_region_held3 (fun w' => w'.cell? ⟨gm, 0, none⟩ = some (.int .i64 lo') ∧ w'.cell? ⟨gm, 1, none⟩ = some (.int .i64 hi') ∧ w'.cell? ⟨gm, 2, none⟩ = some (.int .i64 ep)) (first | (with_reducible exact s4) | (with_reducible exact s5) | (with_reducible exact s6) | (trace_state; fail))
        (first
          | (go_at_call 18; refine (remanence_Clock_Now.calls g lo' hi' ep _ _ _ _ _ w0 _ (by first | exact I4.out | exact is_below I4.out (below_drew (Below.refl _ _))) (by first | exact B4.out | exact below_step B4.out (below_drew (Below.refl _ _))) rfl).mono ?_; rintro e w5 ⟨rfl, hi5, hb5, hk5⟩; have M5 := Aside0.mk (keep_blk (w := w4) M4.out hk5 hne); have s5 := c3 M5.out)
          | (go_at_call 19; refine (remanence_Clock_Epoch.calls g lo' hi' ep _ _ _ _ w0 _ hi5 hb5 rfl).mono ?_; rintro e w6 ⟨rfl, hi6, hb6, hk6⟩; have M6 := Aside0.mk (keep_blk M5.out hk6 hne); have s6 := c3 M6.out))
      go_wp2
      go_ret
      exact ⟨lo', hi', ep, rfl, hi6, M6.out, hb6, H3.out, fun i o h h1 h2 => keep_blk (keep_blk (w := w4) (K4.out i o h h1 h2) hk5 h1) hk6 h1⟩
end Go.Proofs.Ytdklncgijnhodaa.Do
