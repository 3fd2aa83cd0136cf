/-
  The contract of expiry's Get, by hand.
-/
import Derived.Test.YtgefhejpaojhbaaArr
import Derived.Outline
namespace Go.Proofs.Ytgefhejpaojhbaa.Pr
open Go.RowKit Go.Proofs.YtgefhejpaojhbaaW.PrintWords Go.Proofs.YtgefhejpaojhbaaW.PrintLast Go.Proofs.YtgefhejpaojhbaaW.PrintMore
set_option linter.unusedVariables false
set_option linter.unusedSimpArgs false
theorem keep3 {b : Nat} {x y z : Int} {w w1 : World} (h : w.cell? ⟨b, 0, none⟩ = some (.int .u8 x) ∧ w.cell? ⟨b, 1, none⟩ = some (.int .u8 y) ∧ w.cell? ⟨b, 2, none⟩ = some (.int .u8 z)) (hb : Below w.heap.size w w1) :
    w1.cell? ⟨b, 0, none⟩ = some (.int .u8 x) ∧ w1.cell? ⟨b, 1, none⟩ = some (.int .u8 y) ∧ w1.cell? ⟨b, 2, none⟩ = some (.int .u8 z) := ⟨pw_cell_below hb h.1, pw_cell_below hb h.2.1, pw_cell_below hb h.2.2⟩
theorem far3 {b : Nat} {x y z : Int} {w : World} {p : Addr} {u : Value} (h : w.cell? ⟨b, 0, none⟩ = some (.int .u8 x) ∧ w.cell? ⟨b, 1, none⟩ = some (.int .u8 y) ∧ w.cell? ⟨b, 2, none⟩ = some (.int .u8 z)) (h1 : p.block ≠ b) :
    (w.setCell p u).cell? ⟨b, 0, none⟩ = some (.int .u8 x) ∧ (w.setCell p u).cell? ⟨b, 1, none⟩ = some (.int .u8 y) ∧ (w.setCell p u).cell? ⟨b, 2, none⟩ = some (.int .u8 z) := ⟨(World.cell?_setCell_far w p _ u h1).trans h.1, (World.cell?_setCell_far w p _ u h1).trans h.2.1, (World.cell?_setCell_far w p _ u h1).trans h.2.2⟩
/-- The number of five bytes, as the program reckons it. -/
def getT (b3 b4 b5 b6 b7 : Int) : Int := bits BinOp.or IntKind.i64 (bits BinOp.or IntKind.i64 (bits BinOp.or IntKind.i64 (bits BinOp.or IntKind.i64 (bits BinOp.or IntKind.i64 0 b3) (b4 * 256)) (b5 * 65536)) (b6 * 16777216)) (b7 * 4294967296)
set_option maxHeartbeats 4000000 in
set_option maxRecDepth 100000 in
theorem expiry_Get.walk (b0 b1 b2 b3 b4 b5 b6 b7 : Int) (w : World) (h2 : 0 ≤ b2 ∧ b2 ≤ 255) (h3 : 0 ≤ b3 ∧ b3 ≤ 255) (h4 : 0 ≤ b4 ∧ b4 ≤ 255) (h5 : 0 ≤ b5 ∧ b5 ≤ 255) (h6 : 0 ≤ b6 ∧ b6 ≤ 255) (h7 : 0 ≤ b7 ∧ b7 ≤ 255) :
    Calls Try.prog 32 #[.agg #[.int .u8 b0, .int .u8 b1, .int .u8 b2, .int .u8 b3, .int .u8 b4, .int .u8 b5, .int .u8 b6, .int .u8 b7]] w fun e w' => e = .returned (.agg #[.int .i16 (IntKind.i16.wrap (bits BinOp.or IntKind.u16 (IntKind.u16.wrap b0) (IntKind.u16.wrap (IntKind.u16.wrap b1 * 256)))), .int .i64 (getT b3 b4 b5 b6 b7), .int .i64 (getT b3 b4 b5 b6 b7), .int .i64 (IntKind.i64.wrap b2)]) ∧ Below w.heap.size w w' := by
  have p2 := h2.1
  have q2 := h2.2
  have p3 := h3.1
  have q3 := h3.2
  have p4 := h4.1
  have q4 := h4.2
  have p5 := h5.1
  have q5 := h5.2
  have p6 := h6.1
  have q6 := h6.2
  have p7 := h7.1
  have q7 := h7.2
  clear h2 h3 h4 h5 h6 h7
  go_enter Try.func32, Try.ntmps32
  go_wp2
  refine wp_loop_rounds 6 ?_
  rw [rounds_succ]
  go_wp2_with fail
  rw [rounds_succ]
  go_wp2_with fail
  rw [rounds_succ]
  go_wp2_with fail
  rw [rounds_succ]
  go_wp2_with fail
  rw [rounds_succ]
  go_wp2_with fail
  rw [rounds_succ]
  go_wp2_with fail
  obtain ⟨t, ht⟩ : ∃ t, getT b3 b4 b5 b6 b7 = t := ⟨_, rfl⟩
  have ht' : (bits BinOp.or IntKind.i64 (bits BinOp.or IntKind.i64 (bits BinOp.or IntKind.i64 (bits BinOp.or IntKind.i64 (bits BinOp.or IntKind.i64 0 b3) (b4 * 256)) (b5 * 65536)) (b6 * 16777216)) (b7 * 4294967296)) = t := ht
  rw [ht']
  have HT := Aside0.mk ht
  clear ht ht'
  have d0 : ((w.alloc (.cells #[.int .u8 b0, .int .u8 b1, .int .u8 b2, .int .u8 b3, .int .u8 b4, .int .u8 b5, .int .u8 b6, .int .u8 b7] 71)).alloc (.cells #[.int .i16 0, .int .i64 0, .int .i64 0, .int .i64 0] 46)).cell? ⟨w.heap.size, 0, none⟩ = some (.int .u8 b0) := (blk_cell (blk_alloc (blk_new w _) _) 0).trans rfl
  have d1 : ((w.alloc (.cells #[.int .u8 b0, .int .u8 b1, .int .u8 b2, .int .u8 b3, .int .u8 b4, .int .u8 b5, .int .u8 b6, .int .u8 b7] 71)).alloc (.cells #[.int .i16 0, .int .i64 0, .int .i64 0, .int .i64 0] 46)).cell? ⟨w.heap.size, 1, none⟩ = some (.int .u8 b1) := (blk_cell (blk_alloc (blk_new w _) _) 1).trans rfl
  have d2 : ((w.alloc (.cells #[.int .u8 b0, .int .u8 b1, .int .u8 b2, .int .u8 b3, .int .u8 b4, .int .u8 b5, .int .u8 b6, .int .u8 b7] 71)).alloc (.cells #[.int .i16 0, .int .i64 0, .int .i64 0, .int .i64 0] 46)).cell? ⟨w.heap.size, 2, none⟩ = some (.int .u8 b2) := (blk_cell (blk_alloc (blk_new w _) _) 2).trans rfl
  have BZ := Aside0.mk (show ((w.alloc (.cells #[.int .u8 b0, .int .u8 b1, .int .u8 b2, .int .u8 b3, .int .u8 b4, .int .u8 b5, .int .u8 b6, .int .u8 b7] 71)).alloc (.cells #[.int .i16 0, .int .i64 0, .int .i64 0, .int .i64 0] 46)).heap[w.heap.size + 1]? = some (.cells #[.int .i16 0, .int .i64 0, .int .i64 0, .int .i64 0] 46 (0, 0)) by simpa using blk_new (w.alloc (.cells #[.int .u8 b0, .int .u8 b1, .int .u8 b2, .int .u8 b3, .int .u8 b4, .int .u8 b5, .int .u8 b6, .int .u8 b7] 71)) (.cells #[.int .i16 0, .int .i64 0, .int .i64 0, .int .i64 0] 46))
  have HB := Aside0.mk (below_alloc (below_alloc (Below.refl w.heap.size w) (.cells #[.int .u8 b0, .int .u8 b1, .int .u8 b2, .int .u8 b3, .int .u8 b4, .int .u8 b5, .int .u8 b6, .int .u8 b7] 71)) (.cells #[.int .i16 0, .int .i64 0, .int .i64 0, .int .i64 0] 46))
  generalize (w.alloc (.cells #[.int .u8 b0, .int .u8 b1, .int .u8 b2, .int .u8 b3, .int .u8 b4, .int .u8 b5, .int .u8 b6, .int .u8 b7] 71)).alloc (.cells #[.int .i16 0, .int .i64 0, .int .i64 0, .int .i64 0] 46) = W at *
  go_region_held3 (fun w' => w'.cell? ⟨w.heap.size, 0, none⟩ = some (.int .u8 b0) ∧ w'.cell? ⟨w.heap.size, 1, none⟩ = some (.int .u8 b1) ∧ w'.cell? ⟨w.heap.size, 2, none⟩ = some (.int .u8 b2)) (first | exact ⟨d0, d1, d2⟩ | exact keep3 (by assumption) (by assumption) | exact far3 (far3 (far3 (far3 (by assumption) (show w.heap.size + 1 ≠ w.heap.size by omega)) (show w.heap.size + 1 ≠ w.heap.size by omega)) (show w.heap.size + 1 ≠ w.heap.size by omega)) (show w.heap.size + 1 ≠ w.heap.size by omega) | (trace_state; fail))
    (first | (go_at_call 49; refine (word_Get.walk b0 b1 _).mono ?_; rintro e w2 ⟨rfl, hb2⟩; have zb := blk_below (blk_drew BZ.out) hb2; have ZB := Aside0.mk zb; have HB2 := Aside0.mk (below_step (below_drew HB.out) hb2); have z0 : w2.cell? ⟨w.heap.size + 1, 0, none⟩ = some (.int .i16 0) := (blk_cell zb 0).trans rfl; have z1 : w2.cell? ⟨w.heap.size + 1, 1, none⟩ = some (.int .i64 0) := (blk_cell zb 1).trans rfl; have z2 : w2.cell? ⟨w.heap.size + 1, 2, none⟩ = some (.int .i64 0) := (blk_cell zb 2).trans rfl; have z3 : w2.cell? ⟨w.heap.size + 1, 3, none⟩ = some (.int .i64 0) := (blk_cell zb 3).trans rfl; have f0 := blk_frozen zb 0; have f1 := blk_frozen zb 1; have f2 := blk_frozen zb 2; have f3 := blk_frozen zb 3; clear zb))
  have HT2 := HT.out
  subst HT2
  go_wp2
  refine bodyPost_ret (results_cell_row rfl _ _ (w.heap.size + 1) 46 #[.int .i16 (IntKind.i16.wrap (bits BinOp.or IntKind.u16 (IntKind.u16.wrap b0) (IntKind.u16.wrap (IntKind.u16.wrap b1 * 256)))), .int .i64 (getT b3 b4 b5 b6 b7), .int .i64 (getT b3 b4 b5 b6 b7), .int .i64 (IntKind.i64.wrap b2)] (0, 0) _ rfl (blk_put (blk_put (blk_put (blk_put ZB.out 0 _ rfl) 1 _ rfl) 2 _ rfl) 3 _ rfl) Try.underlying46 rfl (by kernel_rfl)) rfl ?_
  exact ⟨rfl, below_set (below_set (below_set (below_set HB2.out (show w.heap.size ≤ w.heap.size + 1 by omega)) (show w.heap.size ≤ w.heap.size + 1 by omega)) (show w.heap.size ≤ w.heap.size + 1 by omega)) (show w.heap.size ≤ w.heap.size + 1 by omega)⟩
theorem eq71_self (d : Nat) (w : World) (x0 x1 x2 x3 x4 x5 x6 x7 : Int) : Sem.run Try.prog (Op.equalIn (d + 2) 71 (.agg #[.int .u8 x0, .int .u8 x1, .int .u8 x2, .int .u8 x3, .int .u8 x4, .int .u8 x5, .int .u8 x6, .int .u8 x7]) (.agg #[.int .u8 x0, .int .u8 x1, .int .u8 x2, .int .u8 x3, .int .u8 x4, .int .u8 x5, .int .u8 x6, .int .u8 x7])) w = .ok true w := by
  have h5 : Try.prog.cellsOf 5 = 1 := by kernel_rfl
  rw [Op.equalIn]
  go_simp
  have hr : List.range' 0 8 = [0, 1, 2, 3, 4, 5, 6, 7] := rfl
  rw [hr]
  go_simp
end Go.Proofs.Ytgefhejpaojhbaa.Pr
