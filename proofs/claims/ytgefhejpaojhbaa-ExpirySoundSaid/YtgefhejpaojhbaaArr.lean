/-
  Contracts of Put and Get of the packages word and expiry, by hand: they work on arrays.
-/
import Derived.Test.YtgefhejpaojhbaaProg
import Derived.Test.YtgefhejpaojhbaaWMore
import Derived.Test.YtgefhejpaojhbaaWLast
import Derived.WalkKit
import Derived.KernelRfl
import Derived.Tactics
import Derived.Deep.RegionHeld3
import Derived.WalkLawsBesides
import Derived.LoopN
namespace Go.Proofs.Ytgefhejpaojhbaa.Pr
open Go.RowKit Go.Proofs.YtgefhejpaojhbaaW.PrintWords Go.Proofs.YtgefhejpaojhbaaW.PrintLast Go.Proofs.YtgefhejpaojhbaaW.PrintMore
set_option linter.unusedVariables false
set_option linter.unusedSimpArgs false
set_option maxHeartbeats 2000000 in
set_option maxRecDepth 100000 in
theorem word_Put.walk (a : Int) (w : World) :
    Calls Try.prog 50 #[.int .i16 a] w fun e w' => e = .returned (.agg #[.int .u8 (a % 256), .int .u8 (IntKind.u16.wrap a / 256 % 256)]) ∧ Below w.heap.size w w' := by
  go_enter Try.func50, Try.ntmps50
  go_wp2
  refine bodyPost_ret (results_cell_row rfl _ _ w.heap.size 87 #[.int .u8 (a % 256), .int .u8 (IntKind.u16.wrap a / 256 % 256)] (0, 0) _ rfl (blk_new w _) Try.underlying87 rfl (by kernel_rfl)) rfl ?_
  exact ⟨rfl, below_alloc (Below.refl _ _) _⟩
set_option maxHeartbeats 2000000 in
set_option maxRecDepth 100000 in
theorem word_Get.walk (a b : Int) (w : World) :
    Calls Try.prog 49 #[.agg #[.int .u8 a, .int .u8 b]] w fun e w' => e = .returned (.int .i16 (IntKind.i16.wrap (bits BinOp.or IntKind.u16 (IntKind.u16.wrap a) (IntKind.u16.wrap (IntKind.u16.wrap b * 256))))) ∧ Below w.heap.size w w' := by
  go_enter Try.func49, Try.ntmps49
  go_wp2
  go_ret
  exact ⟨rfl, below_alloc (Below.refl _ _) _⟩
set_option maxHeartbeats 4000000 in
set_option maxRecDepth 100000 in
theorem expiry_Put.mid (v lo hi ep : Int) (w : World) (h0 : 0 < hi) (h1 : hi ≤ 1099511627775) :
    Calls Try.prog 33 #[.agg #[.int .i16 v, .int .i64 lo, .int .i64 hi, .int .i64 ep]] w fun e w' => e = .returned (.agg #[.int .u8 (v % 256), .int .u8 (IntKind.u16.wrap v / 256 % 256), .int .u8 (ep % 256), .int .u8 (hi % 256), .int .u8 (hi / 256 % 256), .int .u8 (hi / 65536 % 256), .int .u8 (hi / 16777216 % 256), .int .u8 (hi / 4294967296)]) ∧ Below w.heap.size w w' := by
  go_enter Try.func33, Try.ntmps33
  go_wp2_with fail
  refine (word_Put.walk _ _).mono ?_
  rintro e w1 ⟨rfl, hb⟩
  have BK : w1.heap[w.heap.size]? = some (.cells #[.int .i16 v, .int .i64 lo, .int .i64 hi, .int .i64 ep] 46 (0, 0)) := blk_below (blk_alloc (blk_new w _) _) hb
  have BZ : w1.heap[w.heap.size + 1]? = some (.cells #[.int .u8 0, .int .u8 0, .int .u8 0, .int .u8 0, .int .u8 0, .int .u8 0, .int .u8 0, .int .u8 0] 71 (0, 0)) := blk_below (by simpa using blk_new (w.alloc (.cells #[.int .i16 v, .int .i64 lo, .int .i64 hi, .int .i64 ep] 46)) (.cells #[.int .u8 0, .int .u8 0, .int .u8 0, .int .u8 0, .int .u8 0, .int .u8 0, .int .u8 0, .int .u8 0] 71)) hb
  have HB := Aside0.mk (below_step (below_alloc (below_alloc (Below.refl w.heap.size w) _) _) hb)
  have k2 : w1.cell? ⟨w.heap.size, 2, none⟩ = some (.int .i64 hi) := (blk_cell BK 2).trans rfl
  have k3 : w1.cell? ⟨w.heap.size, 3, none⟩ = some (.int .i64 ep) := (blk_cell BK 3).trans rfl
  have hlt : w.heap.size < w1.heap.size := blk_lt BK
  have hlt2 : w.heap.size + 1 < w1.heap.size := blk_lt BZ
  have z0 : w1.cell? ⟨w.heap.size + 1, 0, none⟩ = some (.int .u8 0) := (blk_cell BZ 0).trans rfl
  have f0 := blk_frozen BZ 0
  have z1 : w1.cell? ⟨w.heap.size + 1, 1, none⟩ = some (.int .u8 0) := (blk_cell BZ 1).trans rfl
  have f1 := blk_frozen BZ 1
  have z2 : w1.cell? ⟨w.heap.size + 1, 2, none⟩ = some (.int .u8 0) := (blk_cell BZ 2).trans rfl
  have f2 := blk_frozen BZ 2
  have z3 : w1.cell? ⟨w.heap.size + 1, 3, none⟩ = some (.int .u8 0) := (blk_cell BZ 3).trans rfl
  have f3 := blk_frozen BZ 3
  have z4 : w1.cell? ⟨w.heap.size + 1, 4, none⟩ = some (.int .u8 0) := (blk_cell BZ 4).trans rfl
  have f4 := blk_frozen BZ 4
  have z5 : w1.cell? ⟨w.heap.size + 1, 5, none⟩ = some (.int .u8 0) := (blk_cell BZ 5).trans rfl
  have f5 := blk_frozen BZ 5
  have z6 : w1.cell? ⟨w.heap.size + 1, 6, none⟩ = some (.int .u8 0) := (blk_cell BZ 6).trans rfl
  have f6 := blk_frozen BZ 6
  have z7 : w1.cell? ⟨w.heap.size + 1, 7, none⟩ = some (.int .u8 0) := (blk_cell BZ 7).trans rfl
  have f7 := blk_frozen BZ 7
  have ZB := Aside0.mk BZ
  clear BK BZ hb
  have h2 : ¬ (1099511627775 : Int) < hi := by omega
  go_wp2
  refine wp_loop_rounds 6 ?_
  rw [rounds_succ]
  go_wp2_with fail
  rw [rounds_succ]
  go_wp2_with fail
  rw [rounds_succ]
  go_wp2_with fail
  rw [rounds_succ]
  go_wp2_with fail
  rw [rounds_succ]
  go_wp2_with fail
  rw [rounds_succ]
  go_wp2_with fail
  go_wp2
  refine bodyPost_ret (results_cell_row rfl _ _ (w.heap.size + 1) 71 #[.int .u8 (v % 256), .int .u8 (IntKind.u16.wrap v / 256 % 256), .int .u8 (ep % 256), .int .u8 (hi % 256), .int .u8 (hi / 256 % 256), .int .u8 (hi / 65536 % 256), .int .u8 (hi / 16777216 % 256), .int .u8 (hi / 4294967296)] (0, 0) _ rfl (blk_alloc (blk_alloc (blk_put (blk_put (blk_put (blk_put (blk_put (blk_put (blk_put (blk_put ZB.out 0 _ rfl) 1 _ rfl) 2 _ rfl) 3 _ rfl) 4 _ rfl) 5 _ rfl) 6 _ rfl) 7 _ rfl) _) _) Try.underlying71 rfl (by kernel_rfl)) rfl ?_
  exact ⟨rfl, below_alloc (below_alloc (below_set (below_set (below_set (below_set (below_set (below_set (below_set (below_set HB.out (show w.heap.size ≤ w.heap.size + 1 by omega)) (show w.heap.size ≤ w.heap.size + 1 by omega)) (show w.heap.size ≤ w.heap.size + 1 by omega)) (show w.heap.size ≤ w.heap.size + 1 by omega)) (show w.heap.size ≤ w.heap.size + 1 by omega)) (show w.heap.size ≤ w.heap.size + 1 by omega)) (show w.heap.size ≤ w.heap.size + 1 by omega)) (show w.heap.size ≤ w.heap.size + 1 by omega)) _) _⟩
set_option maxHeartbeats 4000000 in
set_option maxRecDepth 100000 in
theorem expiry_Put.low (v lo hi ep : Int) (w : World) (h1 : hi ≤ 0) :
    Calls Try.prog 33 #[.agg #[.int .i16 v, .int .i64 lo, .int .i64 hi, .int .i64 ep]] w fun e w' => e = .returned (.agg #[.int .u8 (v % 256), .int .u8 (IntKind.u16.wrap v / 256 % 256), .int .u8 (ep % 256), .int .u8 (0), .int .u8 (0), .int .u8 (0), .int .u8 (0), .int .u8 (0)]) ∧ Below w.heap.size w w' := by
  go_enter Try.func33, Try.ntmps33
  go_wp2_with fail
  refine (word_Put.walk _ _).mono ?_
  rintro e w1 ⟨rfl, hb⟩
  have BK : w1.heap[w.heap.size]? = some (.cells #[.int .i16 v, .int .i64 lo, .int .i64 hi, .int .i64 ep] 46 (0, 0)) := blk_below (blk_alloc (blk_new w _) _) hb
  have BZ : w1.heap[w.heap.size + 1]? = some (.cells #[.int .u8 0, .int .u8 0, .int .u8 0, .int .u8 0, .int .u8 0, .int .u8 0, .int .u8 0, .int .u8 0] 71 (0, 0)) := blk_below (by simpa using blk_new (w.alloc (.cells #[.int .i16 v, .int .i64 lo, .int .i64 hi, .int .i64 ep] 46)) (.cells #[.int .u8 0, .int .u8 0, .int .u8 0, .int .u8 0, .int .u8 0, .int .u8 0, .int .u8 0, .int .u8 0] 71)) hb
  have HB := Aside0.mk (below_step (below_alloc (below_alloc (Below.refl w.heap.size w) _) _) hb)
  have k2 : w1.cell? ⟨w.heap.size, 2, none⟩ = some (.int .i64 hi) := (blk_cell BK 2).trans rfl
  have k3 : w1.cell? ⟨w.heap.size, 3, none⟩ = some (.int .i64 ep) := (blk_cell BK 3).trans rfl
  have hlt : w.heap.size < w1.heap.size := blk_lt BK
  have hlt2 : w.heap.size + 1 < w1.heap.size := blk_lt BZ
  have z0 : w1.cell? ⟨w.heap.size + 1, 0, none⟩ = some (.int .u8 0) := (blk_cell BZ 0).trans rfl
  have f0 := blk_frozen BZ 0
  have z1 : w1.cell? ⟨w.heap.size + 1, 1, none⟩ = some (.int .u8 0) := (blk_cell BZ 1).trans rfl
  have f1 := blk_frozen BZ 1
  have z2 : w1.cell? ⟨w.heap.size + 1, 2, none⟩ = some (.int .u8 0) := (blk_cell BZ 2).trans rfl
  have f2 := blk_frozen BZ 2
  have z3 : w1.cell? ⟨w.heap.size + 1, 3, none⟩ = some (.int .u8 0) := (blk_cell BZ 3).trans rfl
  have f3 := blk_frozen BZ 3
  have z4 : w1.cell? ⟨w.heap.size + 1, 4, none⟩ = some (.int .u8 0) := (blk_cell BZ 4).trans rfl
  have f4 := blk_frozen BZ 4
  have z5 : w1.cell? ⟨w.heap.size + 1, 5, none⟩ = some (.int .u8 0) := (blk_cell BZ 5).trans rfl
  have f5 := blk_frozen BZ 5
  have z6 : w1.cell? ⟨w.heap.size + 1, 6, none⟩ = some (.int .u8 0) := (blk_cell BZ 6).trans rfl
  have f6 := blk_frozen BZ 6
  have z7 : w1.cell? ⟨w.heap.size + 1, 7, none⟩ = some (.int .u8 0) := (blk_cell BZ 7).trans rfl
  have f7 := blk_frozen BZ 7
  have ZB := Aside0.mk BZ
  clear BK BZ hb
  have h2 : ¬ (1099511627775 : Int) < hi := by omega
  have h3 : ¬ (0 : Int) < hi := by omega
  go_wp2
  refine wp_loop_rounds 6 ?_
  rw [rounds_succ]
  go_wp2_with fail
  rw [rounds_succ]
  go_wp2_with fail
  rw [rounds_succ]
  go_wp2_with fail
  rw [rounds_succ]
  go_wp2_with fail
  rw [rounds_succ]
  go_wp2_with fail
  rw [rounds_succ]
  go_wp2_with fail
  go_wp2
  refine bodyPost_ret (results_cell_row rfl _ _ (w.heap.size + 1) 71 #[.int .u8 (v % 256), .int .u8 (IntKind.u16.wrap v / 256 % 256), .int .u8 (ep % 256), .int .u8 (0), .int .u8 (0), .int .u8 (0), .int .u8 (0), .int .u8 (0)] (0, 0) _ rfl (blk_alloc (blk_alloc (blk_put (blk_put (blk_put (blk_put (blk_put (blk_put (blk_put (blk_put ZB.out 0 _ rfl) 1 _ rfl) 2 _ rfl) 3 _ rfl) 4 _ rfl) 5 _ rfl) 6 _ rfl) 7 _ rfl) _) _) Try.underlying71 rfl (by kernel_rfl)) rfl ?_
  exact ⟨rfl, below_alloc (below_alloc (below_set (below_set (below_set (below_set (below_set (below_set (below_set (below_set HB.out (show w.heap.size ≤ w.heap.size + 1 by omega)) (show w.heap.size ≤ w.heap.size + 1 by omega)) (show w.heap.size ≤ w.heap.size + 1 by omega)) (show w.heap.size ≤ w.heap.size + 1 by omega)) (show w.heap.size ≤ w.heap.size + 1 by omega)) (show w.heap.size ≤ w.heap.size + 1 by omega)) (show w.heap.size ≤ w.heap.size + 1 by omega)) (show w.heap.size ≤ w.heap.size + 1 by omega)) _) _⟩
set_option maxHeartbeats 4000000 in
set_option maxRecDepth 100000 in
theorem expiry_Put.high (v lo hi ep : Int) (w : World) (h1 : 1099511627775 < hi) :
    Calls Try.prog 33 #[.agg #[.int .i16 v, .int .i64 lo, .int .i64 hi, .int .i64 ep]] w fun e w' => e = .returned (.agg #[.int .u8 (v % 256), .int .u8 (IntKind.u16.wrap v / 256 % 256), .int .u8 (ep % 256), .int .u8 (255), .int .u8 (255), .int .u8 (255), .int .u8 (255), .int .u8 (255)]) ∧ Below w.heap.size w w' := by
  go_enter Try.func33, Try.ntmps33
  go_wp2_with fail
  refine (word_Put.walk _ _).mono ?_
  rintro e w1 ⟨rfl, hb⟩
  have BK : w1.heap[w.heap.size]? = some (.cells #[.int .i16 v, .int .i64 lo, .int .i64 hi, .int .i64 ep] 46 (0, 0)) := blk_below (blk_alloc (blk_new w _) _) hb
  have BZ : w1.heap[w.heap.size + 1]? = some (.cells #[.int .u8 0, .int .u8 0, .int .u8 0, .int .u8 0, .int .u8 0, .int .u8 0, .int .u8 0, .int .u8 0] 71 (0, 0)) := blk_below (by simpa using blk_new (w.alloc (.cells #[.int .i16 v, .int .i64 lo, .int .i64 hi, .int .i64 ep] 46)) (.cells #[.int .u8 0, .int .u8 0, .int .u8 0, .int .u8 0, .int .u8 0, .int .u8 0, .int .u8 0, .int .u8 0] 71)) hb
  have HB := Aside0.mk (below_step (below_alloc (below_alloc (Below.refl w.heap.size w) _) _) hb)
  have k2 : w1.cell? ⟨w.heap.size, 2, none⟩ = some (.int .i64 hi) := (blk_cell BK 2).trans rfl
  have k3 : w1.cell? ⟨w.heap.size, 3, none⟩ = some (.int .i64 ep) := (blk_cell BK 3).trans rfl
  have hlt : w.heap.size < w1.heap.size := blk_lt BK
  have hlt2 : w.heap.size + 1 < w1.heap.size := blk_lt BZ
  have z0 : w1.cell? ⟨w.heap.size + 1, 0, none⟩ = some (.int .u8 0) := (blk_cell BZ 0).trans rfl
  have f0 := blk_frozen BZ 0
  have z1 : w1.cell? ⟨w.heap.size + 1, 1, none⟩ = some (.int .u8 0) := (blk_cell BZ 1).trans rfl
  have f1 := blk_frozen BZ 1
  have z2 : w1.cell? ⟨w.heap.size + 1, 2, none⟩ = some (.int .u8 0) := (blk_cell BZ 2).trans rfl
  have f2 := blk_frozen BZ 2
  have z3 : w1.cell? ⟨w.heap.size + 1, 3, none⟩ = some (.int .u8 0) := (blk_cell BZ 3).trans rfl
  have f3 := blk_frozen BZ 3
  have z4 : w1.cell? ⟨w.heap.size + 1, 4, none⟩ = some (.int .u8 0) := (blk_cell BZ 4).trans rfl
  have f4 := blk_frozen BZ 4
  have z5 : w1.cell? ⟨w.heap.size + 1, 5, none⟩ = some (.int .u8 0) := (blk_cell BZ 5).trans rfl
  have f5 := blk_frozen BZ 5
  have z6 : w1.cell? ⟨w.heap.size + 1, 6, none⟩ = some (.int .u8 0) := (blk_cell BZ 6).trans rfl
  have f6 := blk_frozen BZ 6
  have z7 : w1.cell? ⟨w.heap.size + 1, 7, none⟩ = some (.int .u8 0) := (blk_cell BZ 7).trans rfl
  have f7 := blk_frozen BZ 7
  have ZB := Aside0.mk BZ
  clear BK BZ hb
  go_wp2
  refine wp_loop_rounds 6 ?_
  rw [rounds_succ]
  go_wp2_with fail
  rw [rounds_succ]
  go_wp2_with fail
  rw [rounds_succ]
  go_wp2_with fail
  rw [rounds_succ]
  go_wp2_with fail
  rw [rounds_succ]
  go_wp2_with fail
  rw [rounds_succ]
  go_wp2_with fail
  go_wp2
  refine bodyPost_ret (results_cell_row rfl _ _ (w.heap.size + 1) 71 #[.int .u8 (v % 256), .int .u8 (IntKind.u16.wrap v / 256 % 256), .int .u8 (ep % 256), .int .u8 (255), .int .u8 (255), .int .u8 (255), .int .u8 (255), .int .u8 (255)] (0, 0) _ rfl (blk_alloc (blk_alloc (blk_put (blk_put (blk_put (blk_put (blk_put (blk_put (blk_put (blk_put ZB.out 0 _ rfl) 1 _ rfl) 2 _ rfl) 3 _ rfl) 4 _ rfl) 5 _ rfl) 6 _ rfl) 7 _ rfl) _) _) Try.underlying71 rfl (by kernel_rfl)) rfl ?_
  exact ⟨rfl, below_alloc (below_alloc (below_set (below_set (below_set (below_set (below_set (below_set (below_set (below_set HB.out (show w.heap.size ≤ w.heap.size + 1 by omega)) (show w.heap.size ≤ w.heap.size + 1 by omega)) (show w.heap.size ≤ w.heap.size + 1 by omega)) (show w.heap.size ≤ w.heap.size + 1 by omega)) (show w.heap.size ≤ w.heap.size + 1 by omega)) (show w.heap.size ≤ w.heap.size + 1 by omega)) (show w.heap.size ≤ w.heap.size + 1 by omega)) (show w.heap.size ≤ w.heap.size + 1 by omega)) _) _⟩
end Go.Proofs.Ytgefhejpaojhbaa.Pr
