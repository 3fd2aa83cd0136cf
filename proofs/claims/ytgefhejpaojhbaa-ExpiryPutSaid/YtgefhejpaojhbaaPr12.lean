-- Written by a program of this session for this claim.
import Derived.Test.YtgefhejpaojhbaaPr0
namespace Go.Proofs.Ytgefhejpaojhbaa.Pr
open Go.RowKit Go.Proofs.YtgefhejpaojhbaaW.PrintWords Go.Proofs.YtgefhejpaojhbaaW.PrintLast Go.Proofs.YtgefhejpaojhbaaW.PrintMore
attribute [local go_sem] max2_int min2_int max_two min_two max_three min_three max_four min_four   -- for this text's walks alone
set_option linter.unusedVariables false
set_option linter.unusedSimpArgs false

/-! ### trickleref01_Put: function 51 -/
def trickleref01_Put.f (a0 : Int) : Option (Int × Int) := if (wrap64 (a0)) < 0 then (some ((Int.tmod (wrap64 ((wrap64 (a0)) + 65536)) 256) % 256, (wrap64 (Int.tdiv (wrap64 ((wrap64 (a0)) + 65536)) 256)) % 256)) else (some ((Int.tmod (wrap64 (a0)) 256) % 256, (wrap64 (Int.tdiv (wrap64 (a0)) 256)) % 256))
set_option maxHeartbeats 8000000 in
set_option maxRecDepth 100000 in
theorem trickleref01_Put.calls (a0 : Int) (r1 : Int) (r2 : Int) (w : World) (h : trickleref01_Put.f a0 = some (r1, r2)) :
    Calls Try.prog 51 #[.int .i16 a0] w fun e w' => e = .returned (.agg #[.int .u8 r1, .int .u8 r2]) ∧ Below w.heap.size w w' := by
  have hu87 := Try.underlying87
  have HB := Aside0.mk (Below.refl w.heap.size w)
  have H : (if (wrap64 (a0)) < 0 then (some ((Int.tmod (wrap64 ((wrap64 (a0)) + 65536)) 256) % 256, (wrap64 (Int.tdiv (wrap64 ((wrap64 (a0)) + 65536)) 256)) % 256)) else (some ((Int.tmod (wrap64 (a0)) 256) % 256, (wrap64 (Int.tdiv (wrap64 (a0)) 256)) % 256))) = some (r1, r2) := h
  clear h
  by_cases c2 : (wrap64 (a0)) < 0
  · rw [if_pos c2] at H
    have c2b0 : decide ((wrap64 (a0)) < 0) = true := decide_eq_true c2
    clear c2
    simp only [Option.some.injEq, Prod.mk.injEq] at H
    obtain ⟨rfl, rfl⟩ := H
    go_enter Try.func51, Try.ntmps51
    go_wp2_with (first | ((with_reducible refine gate_dst (N := 2) rfl ?_); refine box_event ?hg (N := 2) ?hd (cs := #[.int .u8 0, .int .u8 0]) (t := 87) ?hr ?_; (case hd => rfl); (case hg => rfl); (case hr => first | (go_simp; done) | (go_simp; rfl)); intro gb278 hg w3 hbox hb; have n0_ := Aside0.mk (below_step (by repeat (first | (with_reducible first | exact HB.out | apply below_alloc | apply pw_below_drewN | apply below_drew1) | exact HB.out)) hb); have n1_ := Aside0.mk (hbox); have n2_ := Aside0.mk ((by rw [hg]; exact (below_size (by repeat (first | (with_reducible first | exact HB.out | apply below_alloc | apply pw_below_drewN | apply below_drew1) | exact HB.out))) : w.heap.size ≤ gb278)); have n3_ := Aside0.mk ((by rw [hg]; exact (below_size (by repeat (first | (with_reducible first | exact HB.out | apply below_alloc | apply pw_below_drewN | apply below_drew1) | exact HB.out))) : w.heap.size ≤ gb278)); clear HB; have HB := n0_; have BK278 := n1_; have GW278 := n2_; have GE278 := n3_; clear n0_ n1_ n2_ n3_; clear hb hbox hg; have hcz4_0 : w3.cell? ⟨gb278, 0, none⟩ = some (.int .u8 0) := (blk_cell BK278.out 0).trans rfl; have hcz4_1 : w3.cell? ⟨gb278, 1, none⟩ = some (.int .u8 0) := (blk_cell BK278.out 1).trans rfl; have hfz4_0 := blk_frozen BK278.out 0; have hfz4_1 := blk_frozen BK278.out 1))
    refine bodyPost_ret (results_cell_row rfl _ _ gb278 87 #[.int .u8 ((Int.tmod (wrap64 ((wrap64 (a0)) + 65536)) 256) % 256), .int .u8 ((wrap64 (Int.tdiv (wrap64 ((wrap64 (a0)) + 65536)) 256)) % 256)] (0, 0) _ rfl (by (with_reducible repeat (first | refine blk_drewN ?_ _ | refine blk_drew ?_ | refine blk_alloc ?_ _)); refine blk_put (cs := #[.int .u8 ((Int.tmod (wrap64 ((wrap64 (a0)) + 65536)) 256) % 256), .int .u8 0]) ?_ 1 _ rfl; (with_reducible repeat (first | refine blk_drewN ?_ _ | refine blk_drew ?_ | refine blk_alloc ?_ _)); refine blk_put (cs := #[.int .u8 0, .int .u8 0]) ?_ 0 _ rfl; (with_reducible repeat (first | refine blk_drewN ?_ _ | refine blk_drew ?_ | refine blk_alloc ?_ _)); exact BK278.out) Try.underlying87 rfl (by kernel_rfl)) rfl ?_
    exact ⟨by first | rfl | (simp [errW_none, errW_some] <;> rfl) | (simp [*, errW_none, errW_some] <;> rfl), by repeat (first | (with_reducible first | exact HB.out | apply below_alloc | apply pw_below_drewN | apply below_drew1 | refine below_set ?_ GE278.out) | exact HB.out)⟩
  · rw [if_neg c2] at H
    have c2b0 : decide ((wrap64 (a0)) < 0) = false := decide_eq_false c2
    clear c2
    simp only [Option.some.injEq, Prod.mk.injEq] at H
    obtain ⟨rfl, rfl⟩ := H
    go_enter Try.func51, Try.ntmps51
    go_wp2_with (first | ((with_reducible refine gate_dst (N := 2) rfl ?_); refine box_event ?hg (N := 2) ?hd (cs := #[.int .u8 0, .int .u8 0]) (t := 87) ?hr ?_; (case hd => rfl); (case hg => rfl); (case hr => first | (go_simp; done) | (go_simp; rfl)); intro gb278 hg w5 hbox hb; have n0_ := Aside0.mk (below_step (by repeat (first | (with_reducible first | exact HB.out | apply below_alloc | apply pw_below_drewN | apply below_drew1) | exact HB.out)) hb); have n1_ := Aside0.mk (hbox); have n2_ := Aside0.mk ((by rw [hg]; exact (below_size (by repeat (first | (with_reducible first | exact HB.out | apply below_alloc | apply pw_below_drewN | apply below_drew1) | exact HB.out))) : w.heap.size ≤ gb278)); have n3_ := Aside0.mk ((by rw [hg]; exact (below_size (by repeat (first | (with_reducible first | exact HB.out | apply below_alloc | apply pw_below_drewN | apply below_drew1) | exact HB.out))) : w.heap.size ≤ gb278)); clear HB; have HB := n0_; have BK278 := n1_; have GW278 := n2_; have GE278 := n3_; clear n0_ n1_ n2_ n3_; clear hb hbox hg; have hcz6_0 : w5.cell? ⟨gb278, 0, none⟩ = some (.int .u8 0) := (blk_cell BK278.out 0).trans rfl; have hcz6_1 : w5.cell? ⟨gb278, 1, none⟩ = some (.int .u8 0) := (blk_cell BK278.out 1).trans rfl; have hfz6_0 := blk_frozen BK278.out 0; have hfz6_1 := blk_frozen BK278.out 1))
    refine bodyPost_ret (results_cell_row rfl _ _ gb278 87 #[.int .u8 ((Int.tmod (wrap64 (a0)) 256) % 256), .int .u8 ((wrap64 (Int.tdiv (wrap64 (a0)) 256)) % 256)] (0, 0) _ rfl (by (with_reducible repeat (first | refine blk_drewN ?_ _ | refine blk_drew ?_ | refine blk_alloc ?_ _)); refine blk_put (cs := #[.int .u8 ((Int.tmod (wrap64 (a0)) 256) % 256), .int .u8 0]) ?_ 1 _ rfl; (with_reducible repeat (first | refine blk_drewN ?_ _ | refine blk_drew ?_ | refine blk_alloc ?_ _)); refine blk_put (cs := #[.int .u8 0, .int .u8 0]) ?_ 0 _ rfl; (with_reducible repeat (first | refine blk_drewN ?_ _ | refine blk_drew ?_ | refine blk_alloc ?_ _)); exact BK278.out) Try.underlying87 rfl (by kernel_rfl)) rfl ?_
    exact ⟨by first | rfl | (simp [errW_none, errW_some] <;> rfl) | (simp [*, errW_none, errW_some] <;> rfl), by repeat (first | (with_reducible first | exact HB.out | apply below_alloc | apply pw_below_drewN | apply below_drew1 | refine below_set ?_ GE278.out) | exact HB.out)⟩

/-! ### trickleref41_Put: function 34 -/
theorem most41_again (w : World) : Calls Try.prog 48 #[] w fun e w' => e = .returned (.int .i64 1099511627776) ∧ w' = w := by
  go_enter Try.func48, Try.ntmps48
  go_wp2
  go_ret
  exact ⟨rfl, rfl⟩
set_option maxHeartbeats 4000000 in
set_option maxRecDepth 100000 in
theorem put41_mid_p (v lo hi ep r1 r2 : Int) (w : World) (hp : trickleref01_Put.f v = some (r1, r2)) (h0 : 0 ≤ hi) (h1 : hi ≤ 1099511627775) (he : 0 ≤ Int.tmod ep 256) :
    Calls Try.prog 34 #[.agg #[.int .i16 v, .int .i64 lo, .int .i64 hi, .int .i64 ep]] w fun e w' => e = .returned (.agg #[.int .u8 r1, .int .u8 r2, .int .u8 (Int.tmod ep 256 % 256), .int .u8 (hi % 256), .int .u8 (hi / 256 % 256), .int .u8 (hi / 256 / 256 % 256), .int .u8 (hi / 256 / 256 / 256 % 256), .int .u8 (hi / 256 / 256 / 256 / 256 % 256)]) ∧ Below w.heap.size w w' := by
  go_enter Try.func34, Try.ntmps34
  go_wp2_with fail
  refine (trickleref01_Put.calls v _ _ _ hp).mono ?_
  rintro e w1 ⟨rfl, hb⟩
  have BK : w1.heap[w.heap.size]? = some (.cells #[.int .i16 v, .int .i64 lo, .int .i64 hi, .int .i64 ep] 49 (0, 0)) := blk_below (blk_alloc (blk_new w _) _) hb
  have BZ : w1.heap[w.heap.size + 1]? = some (.cells #[.int .u8 0, .int .u8 0, .int .u8 0, .int .u8 0, .int .u8 0, .int .u8 0, .int .u8 0, .int .u8 0] 71 (0, 0)) := blk_below (by simpa using blk_new (w.alloc (.cells #[.int .i16 v, .int .i64 lo, .int .i64 hi, .int .i64 ep] 49)) (.cells #[.int .u8 0, .int .u8 0, .int .u8 0, .int .u8 0, .int .u8 0, .int .u8 0, .int .u8 0, .int .u8 0] 71)) hb
  have HB := Aside0.mk (below_step (below_alloc (below_alloc (Below.refl w.heap.size w) _) _) hb)
  have k2 : w1.cell? ⟨w.heap.size, 2, none⟩ = some (.int .i64 hi) := (blk_cell BK 2).trans rfl
  have k3 : w1.cell? ⟨w.heap.size, 3, none⟩ = some (.int .i64 ep) := (blk_cell BK 3).trans rfl
  have hlt : w.heap.size < w1.heap.size := blk_lt BK
  have hlt2 : w.heap.size + 1 < w1.heap.size := blk_lt BZ
  have z0 : w1.cell? ⟨w.heap.size + 1, 0, none⟩ = some (.int .u8 0) := (blk_cell BZ 0).trans rfl
  have f0 := blk_frozen BZ 0
  have z1 : w1.cell? ⟨w.heap.size + 1, 1, none⟩ = some (.int .u8 0) := (blk_cell BZ 1).trans rfl
  have f1 := blk_frozen BZ 1
  have z2 : w1.cell? ⟨w.heap.size + 1, 2, none⟩ = some (.int .u8 0) := (blk_cell BZ 2).trans rfl
  have f2 := blk_frozen BZ 2
  have z3 : w1.cell? ⟨w.heap.size + 1, 3, none⟩ = some (.int .u8 0) := (blk_cell BZ 3).trans rfl
  have f3 := blk_frozen BZ 3
  have z4 : w1.cell? ⟨w.heap.size + 1, 4, none⟩ = some (.int .u8 0) := (blk_cell BZ 4).trans rfl
  have f4 := blk_frozen BZ 4
  have z5 : w1.cell? ⟨w.heap.size + 1, 5, none⟩ = some (.int .u8 0) := (blk_cell BZ 5).trans rfl
  have f5 := blk_frozen BZ 5
  have z6 : w1.cell? ⟨w.heap.size + 1, 6, none⟩ = some (.int .u8 0) := (blk_cell BZ 6).trans rfl
  have f6 := blk_frozen BZ 6
  have z7 : w1.cell? ⟨w.heap.size + 1, 7, none⟩ = some (.int .u8 0) := (blk_cell BZ 7).trans rfl
  have f7 := blk_frozen BZ 7
  have ZB := Aside0.mk BZ
  clear BK BZ hb
  have he' : ¬ (Int.tmod ep 256 < 0) := by omega
  have h0' : ¬ (hi < 0) := by omega
  have h1' : ¬ (hi > 1099511627775) := by omega
  go_wp2_with (go_at_call 48; refine (most41_again _).mono ?_; rintro e w' ⟨rfl, rfl⟩)
  refine wp_loop_rounds 6 ?_
  rw [rounds_succ]
  go_wp2_with fail
  rw [rounds_succ]
  go_wp2_with fail
  rw [rounds_succ]
  go_wp2_with fail
  rw [rounds_succ]
  go_wp2_with fail
  rw [rounds_succ]
  go_wp2_with fail
  rw [rounds_succ]
  go_wp2_with fail
  refine bodyPost_ret (results_cell_row rfl _ _ (w.heap.size + 1) 71 #[.int .u8 r1, .int .u8 r2, .int .u8 (Int.tmod ep 256 % 256), .int .u8 (hi % 256), .int .u8 (hi / 256 % 256), .int .u8 (hi / 256 / 256 % 256), .int .u8 (hi / 256 / 256 / 256 % 256), .int .u8 (hi / 256 / 256 / 256 / 256 % 256)] (0, 0) _ rfl (blk_alloc (blk_alloc (blk_put (blk_put (blk_put (blk_put (blk_put (blk_put (blk_put (blk_put ZB.out 0 _ rfl) 1 _ rfl) 2 _ rfl) 3 _ rfl) 4 _ rfl) 5 _ rfl) 6 _ rfl) 7 _ rfl) _) _) Try.underlying71 rfl (by kernel_rfl)) rfl ?_
  exact ⟨rfl, below_alloc (below_alloc (below_set (below_set (below_set (below_set (below_set (below_set (below_set (below_set HB.out (show w.heap.size ≤ w.heap.size + 1 by omega)) (show w.heap.size ≤ w.heap.size + 1 by omega)) (show w.heap.size ≤ w.heap.size + 1 by omega)) (show w.heap.size ≤ w.heap.size + 1 by omega)) (show w.heap.size ≤ w.heap.size + 1 by omega)) (show w.heap.size ≤ w.heap.size + 1 by omega)) (show w.heap.size ≤ w.heap.size + 1 by omega)) (show w.heap.size ≤ w.heap.size + 1 by omega)) _) _⟩
set_option maxHeartbeats 4000000 in
set_option maxRecDepth 100000 in
theorem put41_mid_n (v lo hi ep r1 r2 : Int) (w : World) (hp : trickleref01_Put.f v = some (r1, r2)) (h0 : 0 ≤ hi) (h1 : hi ≤ 1099511627775) (he : Int.tmod ep 256 < 0) (he2 : -256 < Int.tmod ep 256) :
    Calls Try.prog 34 #[.agg #[.int .i16 v, .int .i64 lo, .int .i64 hi, .int .i64 ep]] w fun e w' => e = .returned (.agg #[.int .u8 r1, .int .u8 r2, .int .u8 (Int.tmod ep 256 + 256), .int .u8 (hi % 256), .int .u8 (hi / 256 % 256), .int .u8 (hi / 256 / 256 % 256), .int .u8 (hi / 256 / 256 / 256 % 256), .int .u8 (hi / 256 / 256 / 256 / 256 % 256)]) ∧ Below w.heap.size w w' := by
  go_enter Try.func34, Try.ntmps34
  go_wp2_with fail
  refine (trickleref01_Put.calls v _ _ _ hp).mono ?_
  rintro e w1 ⟨rfl, hb⟩
  have BK : w1.heap[w.heap.size]? = some (.cells #[.int .i16 v, .int .i64 lo, .int .i64 hi, .int .i64 ep] 49 (0, 0)) := blk_below (blk_alloc (blk_new w _) _) hb
  have BZ : w1.heap[w.heap.size + 1]? = some (.cells #[.int .u8 0, .int .u8 0, .int .u8 0, .int .u8 0, .int .u8 0, .int .u8 0, .int .u8 0, .int .u8 0] 71 (0, 0)) := blk_below (by simpa using blk_new (w.alloc (.cells #[.int .i16 v, .int .i64 lo, .int .i64 hi, .int .i64 ep] 49)) (.cells #[.int .u8 0, .int .u8 0, .int .u8 0, .int .u8 0, .int .u8 0, .int .u8 0, .int .u8 0, .int .u8 0] 71)) hb
  have HB := Aside0.mk (below_step (below_alloc (below_alloc (Below.refl w.heap.size w) _) _) hb)
  have k2 : w1.cell? ⟨w.heap.size, 2, none⟩ = some (.int .i64 hi) := (blk_cell BK 2).trans rfl
  have k3 : w1.cell? ⟨w.heap.size, 3, none⟩ = some (.int .i64 ep) := (blk_cell BK 3).trans rfl
  have hlt : w.heap.size < w1.heap.size := blk_lt BK
  have hlt2 : w.heap.size + 1 < w1.heap.size := blk_lt BZ
  have z0 : w1.cell? ⟨w.heap.size + 1, 0, none⟩ = some (.int .u8 0) := (blk_cell BZ 0).trans rfl
  have f0 := blk_frozen BZ 0
  have z1 : w1.cell? ⟨w.heap.size + 1, 1, none⟩ = some (.int .u8 0) := (blk_cell BZ 1).trans rfl
  have f1 := blk_frozen BZ 1
  have z2 : w1.cell? ⟨w.heap.size + 1, 2, none⟩ = some (.int .u8 0) := (blk_cell BZ 2).trans rfl
  have f2 := blk_frozen BZ 2
  have z3 : w1.cell? ⟨w.heap.size + 1, 3, none⟩ = some (.int .u8 0) := (blk_cell BZ 3).trans rfl
  have f3 := blk_frozen BZ 3
  have z4 : w1.cell? ⟨w.heap.size + 1, 4, none⟩ = some (.int .u8 0) := (blk_cell BZ 4).trans rfl
  have f4 := blk_frozen BZ 4
  have z5 : w1.cell? ⟨w.heap.size + 1, 5, none⟩ = some (.int .u8 0) := (blk_cell BZ 5).trans rfl
  have f5 := blk_frozen BZ 5
  have z6 : w1.cell? ⟨w.heap.size + 1, 6, none⟩ = some (.int .u8 0) := (blk_cell BZ 6).trans rfl
  have f6 := blk_frozen BZ 6
  have z7 : w1.cell? ⟨w.heap.size + 1, 7, none⟩ = some (.int .u8 0) := (blk_cell BZ 7).trans rfl
  have f7 := blk_frozen BZ 7
  have ZB := Aside0.mk BZ
  clear BK BZ hb
  have he' : 0 ≤ Int.tmod ep 256 + 256 := by omega
  have h0' : ¬ (hi < 0) := by omega
  have h1' : ¬ (hi > 1099511627775) := by omega
  go_wp2_with (go_at_call 48; refine (most41_again _).mono ?_; rintro e w' ⟨rfl, rfl⟩)
  refine wp_loop_rounds 6 ?_
  rw [rounds_succ]
  go_wp2_with fail
  rw [rounds_succ]
  go_wp2_with fail
  rw [rounds_succ]
  go_wp2_with fail
  rw [rounds_succ]
  go_wp2_with fail
  rw [rounds_succ]
  go_wp2_with fail
  rw [rounds_succ]
  go_wp2_with fail
  refine bodyPost_ret (results_cell_row rfl _ _ (w.heap.size + 1) 71 #[.int .u8 r1, .int .u8 r2, .int .u8 (Int.tmod ep 256 + 256), .int .u8 (hi % 256), .int .u8 (hi / 256 % 256), .int .u8 (hi / 256 / 256 % 256), .int .u8 (hi / 256 / 256 / 256 % 256), .int .u8 (hi / 256 / 256 / 256 / 256 % 256)] (0, 0) _ rfl (blk_alloc (blk_alloc (blk_put (blk_put (blk_put (blk_put (blk_put (blk_put (blk_put (blk_put ZB.out 0 _ rfl) 1 _ rfl) 2 _ rfl) 3 _ rfl) 4 _ rfl) 5 _ rfl) 6 _ rfl) 7 _ rfl) _) _) Try.underlying71 rfl (by kernel_rfl)) rfl ?_
  exact ⟨rfl, below_alloc (below_alloc (below_set (below_set (below_set (below_set (below_set (below_set (below_set (below_set HB.out (show w.heap.size ≤ w.heap.size + 1 by omega)) (show w.heap.size ≤ w.heap.size + 1 by omega)) (show w.heap.size ≤ w.heap.size + 1 by omega)) (show w.heap.size ≤ w.heap.size + 1 by omega)) (show w.heap.size ≤ w.heap.size + 1 by omega)) (show w.heap.size ≤ w.heap.size + 1 by omega)) (show w.heap.size ≤ w.heap.size + 1 by omega)) (show w.heap.size ≤ w.heap.size + 1 by omega)) _) _⟩
set_option maxHeartbeats 4000000 in
set_option maxRecDepth 100000 in
theorem put41_low_p (v lo hi ep r1 r2 : Int) (w : World) (hp : trickleref01_Put.f v = some (r1, r2)) (h0 : hi < 0) (he : 0 ≤ Int.tmod ep 256) :
    Calls Try.prog 34 #[.agg #[.int .i16 v, .int .i64 lo, .int .i64 hi, .int .i64 ep]] w fun e w' => e = .returned (.agg #[.int .u8 r1, .int .u8 r2, .int .u8 (Int.tmod ep 256 % 256), .int .u8 (0), .int .u8 (0), .int .u8 (0), .int .u8 (0), .int .u8 (0)]) ∧ Below w.heap.size w w' := by
  go_enter Try.func34, Try.ntmps34
  go_wp2_with fail
  refine (trickleref01_Put.calls v _ _ _ hp).mono ?_
  rintro e w1 ⟨rfl, hb⟩
  have BK : w1.heap[w.heap.size]? = some (.cells #[.int .i16 v, .int .i64 lo, .int .i64 hi, .int .i64 ep] 49 (0, 0)) := blk_below (blk_alloc (blk_new w _) _) hb
  have BZ : w1.heap[w.heap.size + 1]? = some (.cells #[.int .u8 0, .int .u8 0, .int .u8 0, .int .u8 0, .int .u8 0, .int .u8 0, .int .u8 0, .int .u8 0] 71 (0, 0)) := blk_below (by simpa using blk_new (w.alloc (.cells #[.int .i16 v, .int .i64 lo, .int .i64 hi, .int .i64 ep] 49)) (.cells #[.int .u8 0, .int .u8 0, .int .u8 0, .int .u8 0, .int .u8 0, .int .u8 0, .int .u8 0, .int .u8 0] 71)) hb
  have HB := Aside0.mk (below_step (below_alloc (below_alloc (Below.refl w.heap.size w) _) _) hb)
  have k2 : w1.cell? ⟨w.heap.size, 2, none⟩ = some (.int .i64 hi) := (blk_cell BK 2).trans rfl
  have k3 : w1.cell? ⟨w.heap.size, 3, none⟩ = some (.int .i64 ep) := (blk_cell BK 3).trans rfl
  have hlt : w.heap.size < w1.heap.size := blk_lt BK
  have hlt2 : w.heap.size + 1 < w1.heap.size := blk_lt BZ
  have z0 : w1.cell? ⟨w.heap.size + 1, 0, none⟩ = some (.int .u8 0) := (blk_cell BZ 0).trans rfl
  have f0 := blk_frozen BZ 0
  have z1 : w1.cell? ⟨w.heap.size + 1, 1, none⟩ = some (.int .u8 0) := (blk_cell BZ 1).trans rfl
  have f1 := blk_frozen BZ 1
  have z2 : w1.cell? ⟨w.heap.size + 1, 2, none⟩ = some (.int .u8 0) := (blk_cell BZ 2).trans rfl
  have f2 := blk_frozen BZ 2
  have z3 : w1.cell? ⟨w.heap.size + 1, 3, none⟩ = some (.int .u8 0) := (blk_cell BZ 3).trans rfl
  have f3 := blk_frozen BZ 3
  have z4 : w1.cell? ⟨w.heap.size + 1, 4, none⟩ = some (.int .u8 0) := (blk_cell BZ 4).trans rfl
  have f4 := blk_frozen BZ 4
  have z5 : w1.cell? ⟨w.heap.size + 1, 5, none⟩ = some (.int .u8 0) := (blk_cell BZ 5).trans rfl
  have f5 := blk_frozen BZ 5
  have z6 : w1.cell? ⟨w.heap.size + 1, 6, none⟩ = some (.int .u8 0) := (blk_cell BZ 6).trans rfl
  have f6 := blk_frozen BZ 6
  have z7 : w1.cell? ⟨w.heap.size + 1, 7, none⟩ = some (.int .u8 0) := (blk_cell BZ 7).trans rfl
  have f7 := blk_frozen BZ 7
  have ZB := Aside0.mk BZ
  clear BK BZ hb
  have he' : ¬ (Int.tmod ep 256 < 0) := by omega
  go_wp2_with (go_at_call 48; refine (most41_again _).mono ?_; rintro e w' ⟨rfl, rfl⟩)
  refine wp_loop_rounds 6 ?_
  rw [rounds_succ]
  go_wp2_with fail
  rw [rounds_succ]
  go_wp2_with fail
  rw [rounds_succ]
  go_wp2_with fail
  rw [rounds_succ]
  go_wp2_with fail
  rw [rounds_succ]
  go_wp2_with fail
  rw [rounds_succ]
  go_wp2_with fail
  refine bodyPost_ret (results_cell_row rfl _ _ (w.heap.size + 1) 71 #[.int .u8 r1, .int .u8 r2, .int .u8 (Int.tmod ep 256 % 256), .int .u8 (0), .int .u8 (0), .int .u8 (0), .int .u8 (0), .int .u8 (0)] (0, 0) _ rfl (blk_alloc (blk_alloc (blk_put (blk_put (blk_put (blk_put (blk_put (blk_put (blk_put (blk_put ZB.out 0 _ rfl) 1 _ rfl) 2 _ rfl) 3 _ rfl) 4 _ rfl) 5 _ rfl) 6 _ rfl) 7 _ rfl) _) _) Try.underlying71 rfl (by kernel_rfl)) rfl ?_
  exact ⟨rfl, below_alloc (below_alloc (below_set (below_set (below_set (below_set (below_set (below_set (below_set (below_set HB.out (show w.heap.size ≤ w.heap.size + 1 by omega)) (show w.heap.size ≤ w.heap.size + 1 by omega)) (show w.heap.size ≤ w.heap.size + 1 by omega)) (show w.heap.size ≤ w.heap.size + 1 by omega)) (show w.heap.size ≤ w.heap.size + 1 by omega)) (show w.heap.size ≤ w.heap.size + 1 by omega)) (show w.heap.size ≤ w.heap.size + 1 by omega)) (show w.heap.size ≤ w.heap.size + 1 by omega)) _) _⟩
set_option maxHeartbeats 4000000 in
set_option maxRecDepth 100000 in
theorem put41_low_n (v lo hi ep r1 r2 : Int) (w : World) (hp : trickleref01_Put.f v = some (r1, r2)) (h0 : hi < 0) (he : Int.tmod ep 256 < 0) (he2 : -256 < Int.tmod ep 256) :
    Calls Try.prog 34 #[.agg #[.int .i16 v, .int .i64 lo, .int .i64 hi, .int .i64 ep]] w fun e w' => e = .returned (.agg #[.int .u8 r1, .int .u8 r2, .int .u8 (Int.tmod ep 256 + 256), .int .u8 (0), .int .u8 (0), .int .u8 (0), .int .u8 (0), .int .u8 (0)]) ∧ Below w.heap.size w w' := by
  go_enter Try.func34, Try.ntmps34
  go_wp2_with fail
  refine (trickleref01_Put.calls v _ _ _ hp).mono ?_
  rintro e w1 ⟨rfl, hb⟩
  have BK : w1.heap[w.heap.size]? = some (.cells #[.int .i16 v, .int .i64 lo, .int .i64 hi, .int .i64 ep] 49 (0, 0)) := blk_below (blk_alloc (blk_new w _) _) hb
  have BZ : w1.heap[w.heap.size + 1]? = some (.cells #[.int .u8 0, .int .u8 0, .int .u8 0, .int .u8 0, .int .u8 0, .int .u8 0, .int .u8 0, .int .u8 0] 71 (0, 0)) := blk_below (by simpa using blk_new (w.alloc (.cells #[.int .i16 v, .int .i64 lo, .int .i64 hi, .int .i64 ep] 49)) (.cells #[.int .u8 0, .int .u8 0, .int .u8 0, .int .u8 0, .int .u8 0, .int .u8 0, .int .u8 0, .int .u8 0] 71)) hb
  have HB := Aside0.mk (below_step (below_alloc (below_alloc (Below.refl w.heap.size w) _) _) hb)
  have k2 : w1.cell? ⟨w.heap.size, 2, none⟩ = some (.int .i64 hi) := (blk_cell BK 2).trans rfl
  have k3 : w1.cell? ⟨w.heap.size, 3, none⟩ = some (.int .i64 ep) := (blk_cell BK 3).trans rfl
  have hlt : w.heap.size < w1.heap.size := blk_lt BK
  have hlt2 : w.heap.size + 1 < w1.heap.size := blk_lt BZ
  have z0 : w1.cell? ⟨w.heap.size + 1, 0, none⟩ = some (.int .u8 0) := (blk_cell BZ 0).trans rfl
  have f0 := blk_frozen BZ 0
  have z1 : w1.cell? ⟨w.heap.size + 1, 1, none⟩ = some (.int .u8 0) := (blk_cell BZ 1).trans rfl
  have f1 := blk_frozen BZ 1
  have z2 : w1.cell? ⟨w.heap.size + 1, 2, none⟩ = some (.int .u8 0) := (blk_cell BZ 2).trans rfl
  have f2 := blk_frozen BZ 2
  have z3 : w1.cell? ⟨w.heap.size + 1, 3, none⟩ = some (.int .u8 0) := (blk_cell BZ 3).trans rfl
  have f3 := blk_frozen BZ 3
  have z4 : w1.cell? ⟨w.heap.size + 1, 4, none⟩ = some (.int .u8 0) := (blk_cell BZ 4).trans rfl
  have f4 := blk_frozen BZ 4
  have z5 : w1.cell? ⟨w.heap.size + 1, 5, none⟩ = some (.int .u8 0) := (blk_cell BZ 5).trans rfl
  have f5 := blk_frozen BZ 5
  have z6 : w1.cell? ⟨w.heap.size + 1, 6, none⟩ = some (.int .u8 0) := (blk_cell BZ 6).trans rfl
  have f6 := blk_frozen BZ 6
  have z7 : w1.cell? ⟨w.heap.size + 1, 7, none⟩ = some (.int .u8 0) := (blk_cell BZ 7).trans rfl
  have f7 := blk_frozen BZ 7
  have ZB := Aside0.mk BZ
  clear BK BZ hb
  have he' : 0 ≤ Int.tmod ep 256 + 256 := by omega
  go_wp2_with (go_at_call 48; refine (most41_again _).mono ?_; rintro e w' ⟨rfl, rfl⟩)
  refine wp_loop_rounds 6 ?_
  rw [rounds_succ]
  go_wp2_with fail
  rw [rounds_succ]
  go_wp2_with fail
  rw [rounds_succ]
  go_wp2_with fail
  rw [rounds_succ]
  go_wp2_with fail
  rw [rounds_succ]
  go_wp2_with fail
  rw [rounds_succ]
  go_wp2_with fail
  refine bodyPost_ret (results_cell_row rfl _ _ (w.heap.size + 1) 71 #[.int .u8 r1, .int .u8 r2, .int .u8 (Int.tmod ep 256 + 256), .int .u8 (0), .int .u8 (0), .int .u8 (0), .int .u8 (0), .int .u8 (0)] (0, 0) _ rfl (blk_alloc (blk_alloc (blk_put (blk_put (blk_put (blk_put (blk_put (blk_put (blk_put (blk_put ZB.out 0 _ rfl) 1 _ rfl) 2 _ rfl) 3 _ rfl) 4 _ rfl) 5 _ rfl) 6 _ rfl) 7 _ rfl) _) _) Try.underlying71 rfl (by kernel_rfl)) rfl ?_
  exact ⟨rfl, below_alloc (below_alloc (below_set (below_set (below_set (below_set (below_set (below_set (below_set (below_set HB.out (show w.heap.size ≤ w.heap.size + 1 by omega)) (show w.heap.size ≤ w.heap.size + 1 by omega)) (show w.heap.size ≤ w.heap.size + 1 by omega)) (show w.heap.size ≤ w.heap.size + 1 by omega)) (show w.heap.size ≤ w.heap.size + 1 by omega)) (show w.heap.size ≤ w.heap.size + 1 by omega)) (show w.heap.size ≤ w.heap.size + 1 by omega)) (show w.heap.size ≤ w.heap.size + 1 by omega)) _) _⟩
set_option maxHeartbeats 4000000 in
set_option maxRecDepth 100000 in
theorem put41_high_p (v lo hi ep r1 r2 : Int) (w : World) (hp : trickleref01_Put.f v = some (r1, r2)) (h1 : 1099511627775 < hi) (he : 0 ≤ Int.tmod ep 256) :
    Calls Try.prog 34 #[.agg #[.int .i16 v, .int .i64 lo, .int .i64 hi, .int .i64 ep]] w fun e w' => e = .returned (.agg #[.int .u8 r1, .int .u8 r2, .int .u8 (Int.tmod ep 256 % 256), .int .u8 (255), .int .u8 (255), .int .u8 (255), .int .u8 (255), .int .u8 (255)]) ∧ Below w.heap.size w w' := by
  go_enter Try.func34, Try.ntmps34
  go_wp2_with fail
  refine (trickleref01_Put.calls v _ _ _ hp).mono ?_
  rintro e w1 ⟨rfl, hb⟩
  have BK : w1.heap[w.heap.size]? = some (.cells #[.int .i16 v, .int .i64 lo, .int .i64 hi, .int .i64 ep] 49 (0, 0)) := blk_below (blk_alloc (blk_new w _) _) hb
  have BZ : w1.heap[w.heap.size + 1]? = some (.cells #[.int .u8 0, .int .u8 0, .int .u8 0, .int .u8 0, .int .u8 0, .int .u8 0, .int .u8 0, .int .u8 0] 71 (0, 0)) := blk_below (by simpa using blk_new (w.alloc (.cells #[.int .i16 v, .int .i64 lo, .int .i64 hi, .int .i64 ep] 49)) (.cells #[.int .u8 0, .int .u8 0, .int .u8 0, .int .u8 0, .int .u8 0, .int .u8 0, .int .u8 0, .int .u8 0] 71)) hb
  have HB := Aside0.mk (below_step (below_alloc (below_alloc (Below.refl w.heap.size w) _) _) hb)
  have k2 : w1.cell? ⟨w.heap.size, 2, none⟩ = some (.int .i64 hi) := (blk_cell BK 2).trans rfl
  have k3 : w1.cell? ⟨w.heap.size, 3, none⟩ = some (.int .i64 ep) := (blk_cell BK 3).trans rfl
  have hlt : w.heap.size < w1.heap.size := blk_lt BK
  have hlt2 : w.heap.size + 1 < w1.heap.size := blk_lt BZ
  have z0 : w1.cell? ⟨w.heap.size + 1, 0, none⟩ = some (.int .u8 0) := (blk_cell BZ 0).trans rfl
  have f0 := blk_frozen BZ 0
  have z1 : w1.cell? ⟨w.heap.size + 1, 1, none⟩ = some (.int .u8 0) := (blk_cell BZ 1).trans rfl
  have f1 := blk_frozen BZ 1
  have z2 : w1.cell? ⟨w.heap.size + 1, 2, none⟩ = some (.int .u8 0) := (blk_cell BZ 2).trans rfl
  have f2 := blk_frozen BZ 2
  have z3 : w1.cell? ⟨w.heap.size + 1, 3, none⟩ = some (.int .u8 0) := (blk_cell BZ 3).trans rfl
  have f3 := blk_frozen BZ 3
  have z4 : w1.cell? ⟨w.heap.size + 1, 4, none⟩ = some (.int .u8 0) := (blk_cell BZ 4).trans rfl
  have f4 := blk_frozen BZ 4
  have z5 : w1.cell? ⟨w.heap.size + 1, 5, none⟩ = some (.int .u8 0) := (blk_cell BZ 5).trans rfl
  have f5 := blk_frozen BZ 5
  have z6 : w1.cell? ⟨w.heap.size + 1, 6, none⟩ = some (.int .u8 0) := (blk_cell BZ 6).trans rfl
  have f6 := blk_frozen BZ 6
  have z7 : w1.cell? ⟨w.heap.size + 1, 7, none⟩ = some (.int .u8 0) := (blk_cell BZ 7).trans rfl
  have f7 := blk_frozen BZ 7
  have ZB := Aside0.mk BZ
  clear BK BZ hb
  have he' : ¬ (Int.tmod ep 256 < 0) := by omega
  have h0' : ¬ (hi < 0) := by omega
  have h1' : hi > 1099511627775 := h1
  go_wp2_with (go_at_call 48; refine (most41_again _).mono ?_; rintro e w' ⟨rfl, rfl⟩)
  refine wp_loop_rounds 6 ?_
  rw [rounds_succ]
  go_wp2_with fail
  rw [rounds_succ]
  go_wp2_with fail
  rw [rounds_succ]
  go_wp2_with fail
  rw [rounds_succ]
  go_wp2_with fail
  rw [rounds_succ]
  go_wp2_with fail
  rw [rounds_succ]
  go_wp2_with fail
  refine bodyPost_ret (results_cell_row rfl _ _ (w.heap.size + 1) 71 #[.int .u8 r1, .int .u8 r2, .int .u8 (Int.tmod ep 256 % 256), .int .u8 (255), .int .u8 (255), .int .u8 (255), .int .u8 (255), .int .u8 (255)] (0, 0) _ rfl (blk_alloc (blk_alloc (blk_put (blk_put (blk_put (blk_put (blk_put (blk_put (blk_put (blk_put ZB.out 0 _ rfl) 1 _ rfl) 2 _ rfl) 3 _ rfl) 4 _ rfl) 5 _ rfl) 6 _ rfl) 7 _ rfl) _) _) Try.underlying71 rfl (by kernel_rfl)) rfl ?_
  exact ⟨rfl, below_alloc (below_alloc (below_set (below_set (below_set (below_set (below_set (below_set (below_set (below_set HB.out (show w.heap.size ≤ w.heap.size + 1 by omega)) (show w.heap.size ≤ w.heap.size + 1 by omega)) (show w.heap.size ≤ w.heap.size + 1 by omega)) (show w.heap.size ≤ w.heap.size + 1 by omega)) (show w.heap.size ≤ w.heap.size + 1 by omega)) (show w.heap.size ≤ w.heap.size + 1 by omega)) (show w.heap.size ≤ w.heap.size + 1 by omega)) (show w.heap.size ≤ w.heap.size + 1 by omega)) _) _⟩
set_option maxHeartbeats 4000000 in
set_option maxRecDepth 100000 in
theorem put41_high_n (v lo hi ep r1 r2 : Int) (w : World) (hp : trickleref01_Put.f v = some (r1, r2)) (h1 : 1099511627775 < hi) (he : Int.tmod ep 256 < 0) (he2 : -256 < Int.tmod ep 256) :
    Calls Try.prog 34 #[.agg #[.int .i16 v, .int .i64 lo, .int .i64 hi, .int .i64 ep]] w fun e w' => e = .returned (.agg #[.int .u8 r1, .int .u8 r2, .int .u8 (Int.tmod ep 256 + 256), .int .u8 (255), .int .u8 (255), .int .u8 (255), .int .u8 (255), .int .u8 (255)]) ∧ Below w.heap.size w w' := by
  go_enter Try.func34, Try.ntmps34
  go_wp2_with fail
  refine (trickleref01_Put.calls v _ _ _ hp).mono ?_
  rintro e w1 ⟨rfl, hb⟩
  have BK : w1.heap[w.heap.size]? = some (.cells #[.int .i16 v, .int .i64 lo, .int .i64 hi, .int .i64 ep] 49 (0, 0)) := blk_below (blk_alloc (blk_new w _) _) hb
  have BZ : w1.heap[w.heap.size + 1]? = some (.cells #[.int .u8 0, .int .u8 0, .int .u8 0, .int .u8 0, .int .u8 0, .int .u8 0, .int .u8 0, .int .u8 0] 71 (0, 0)) := blk_below (by simpa using blk_new (w.alloc (.cells #[.int .i16 v, .int .i64 lo, .int .i64 hi, .int .i64 ep] 49)) (.cells #[.int .u8 0, .int .u8 0, .int .u8 0, .int .u8 0, .int .u8 0, .int .u8 0, .int .u8 0, .int .u8 0] 71)) hb
  have HB := Aside0.mk (below_step (below_alloc (below_alloc (Below.refl w.heap.size w) _) _) hb)
  have k2 : w1.cell? ⟨w.heap.size, 2, none⟩ = some (.int .i64 hi) := (blk_cell BK 2).trans rfl
  have k3 : w1.cell? ⟨w.heap.size, 3, none⟩ = some (.int .i64 ep) := (blk_cell BK 3).trans rfl
  have hlt : w.heap.size < w1.heap.size := blk_lt BK
  have hlt2 : w.heap.size + 1 < w1.heap.size := blk_lt BZ
  have z0 : w1.cell? ⟨w.heap.size + 1, 0, none⟩ = some (.int .u8 0) := (blk_cell BZ 0).trans rfl
  have f0 := blk_frozen BZ 0
  have z1 : w1.cell? ⟨w.heap.size + 1, 1, none⟩ = some (.int .u8 0) := (blk_cell BZ 1).trans rfl
  have f1 := blk_frozen BZ 1
  have z2 : w1.cell? ⟨w.heap.size + 1, 2, none⟩ = some (.int .u8 0) := (blk_cell BZ 2).trans rfl
  have f2 := blk_frozen BZ 2
  have z3 : w1.cell? ⟨w.heap.size + 1, 3, none⟩ = some (.int .u8 0) := (blk_cell BZ 3).trans rfl
  have f3 := blk_frozen BZ 3
  have z4 : w1.cell? ⟨w.heap.size + 1, 4, none⟩ = some (.int .u8 0) := (blk_cell BZ 4).trans rfl
  have f4 := blk_frozen BZ 4
  have z5 : w1.cell? ⟨w.heap.size + 1, 5, none⟩ = some (.int .u8 0) := (blk_cell BZ 5).trans rfl
  have f5 := blk_frozen BZ 5
  have z6 : w1.cell? ⟨w.heap.size + 1, 6, none⟩ = some (.int .u8 0) := (blk_cell BZ 6).trans rfl
  have f6 := blk_frozen BZ 6
  have z7 : w1.cell? ⟨w.heap.size + 1, 7, none⟩ = some (.int .u8 0) := (blk_cell BZ 7).trans rfl
  have f7 := blk_frozen BZ 7
  have ZB := Aside0.mk BZ
  clear BK BZ hb
  have he' : 0 ≤ Int.tmod ep 256 + 256 := by omega
  have h0' : ¬ (hi < 0) := by omega
  have h1' : hi > 1099511627775 := h1
  go_wp2_with (go_at_call 48; refine (most41_again _).mono ?_; rintro e w' ⟨rfl, rfl⟩)
  refine wp_loop_rounds 6 ?_
  rw [rounds_succ]
  go_wp2_with fail
  rw [rounds_succ]
  go_wp2_with fail
  rw [rounds_succ]
  go_wp2_with fail
  rw [rounds_succ]
  go_wp2_with fail
  rw [rounds_succ]
  go_wp2_with fail
  rw [rounds_succ]
  go_wp2_with fail
  refine bodyPost_ret (results_cell_row rfl _ _ (w.heap.size + 1) 71 #[.int .u8 r1, .int .u8 r2, .int .u8 (Int.tmod ep 256 + 256), .int .u8 (255), .int .u8 (255), .int .u8 (255), .int .u8 (255), .int .u8 (255)] (0, 0) _ rfl (blk_alloc (blk_alloc (blk_put (blk_put (blk_put (blk_put (blk_put (blk_put (blk_put (blk_put ZB.out 0 _ rfl) 1 _ rfl) 2 _ rfl) 3 _ rfl) 4 _ rfl) 5 _ rfl) 6 _ rfl) 7 _ rfl) _) _) Try.underlying71 rfl (by kernel_rfl)) rfl ?_
  exact ⟨rfl, below_alloc (below_alloc (below_set (below_set (below_set (below_set (below_set (below_set (below_set (below_set HB.out (show w.heap.size ≤ w.heap.size + 1 by omega)) (show w.heap.size ≤ w.heap.size + 1 by omega)) (show w.heap.size ≤ w.heap.size + 1 by omega)) (show w.heap.size ≤ w.heap.size + 1 by omega)) (show w.heap.size ≤ w.heap.size + 1 by omega)) (show w.heap.size ≤ w.heap.size + 1 by omega)) (show w.heap.size ≤ w.heap.size + 1 by omega)) (show w.heap.size ≤ w.heap.size + 1 by omega)) _) _⟩
def trickleref41_Put.f (a0_0 : Int) (a0_1 : Int) (a0_2 : Int) (a0_3 : Int) : Option (Int × Int × Int × Int × Int × Int × Int × Int) := (trickleref01_Put.f a0_0).bind fun p => some (p.1, p.2, if Int.tmod a0_3 256 < 0 then Int.tmod a0_3 256 + 256 else Int.tmod a0_3 256 % 256, if a0_2 < 0 then 0 else if 1099511627775 < a0_2 then 255 else a0_2 % 256, if a0_2 < 0 then 0 else if 1099511627775 < a0_2 then 255 else a0_2 / 256 % 256, if a0_2 < 0 then 0 else if 1099511627775 < a0_2 then 255 else a0_2 / 256 / 256 % 256, if a0_2 < 0 then 0 else if 1099511627775 < a0_2 then 255 else a0_2 / 256 / 256 / 256 % 256, if a0_2 < 0 then 0 else if 1099511627775 < a0_2 then 255 else a0_2 / 256 / 256 / 256 / 256 % 256)
theorem trickleref41_Put.calls (a0_0 : Int) (a0_1 : Int) (a0_2 : Int) (a0_3 : Int) (r1 : Int) (r2 : Int) (r3 : Int) (r4 : Int) (r5 : Int) (r6 : Int) (r7 : Int) (r8 : Int) (w : World) (h : trickleref41_Put.f a0_0 a0_1 a0_2 a0_3 = some (r1, r2, r3, r4, r5, r6, r7, r8)) :
    Calls Try.prog 34 #[.agg #[.int .i16 a0_0, .int .i64 a0_1, .int .i64 a0_2, .int .i64 a0_3]] w fun e w' => e = .returned (.agg #[.int .u8 r1, .int .u8 r2, .int .u8 r3, .int .u8 r4, .int .u8 r5, .int .u8 r6, .int .u8 r7, .int .u8 r8]) ∧ Below w.heap.size w w' := by
  unfold trickleref41_Put.f at h
  obtain ⟨⟨p, q⟩, hp, h⟩ := Option.bind_eq_some_iff.1 h
  simp only [Option.some.injEq, Prod.mk.injEq] at h
  obtain ⟨rfl, rfl, rfl, rfl, rfl, rfl, rfl, rfl⟩ := h
  have he2 : -256 < Int.tmod a0_3 256 := by { have := Int.lt_tmod_of_pos a0_3 (show (0 : Int) < 256 by decide); omega }
  by_cases he : Int.tmod a0_3 256 < 0
  · by_cases h0 : a0_2 < 0
    · simp only [if_pos he, if_pos h0]
      exact put41_low_n _ _ _ _ _ _ w hp h0 he he2
    · by_cases h1 : 1099511627775 < a0_2
      · simp only [if_pos he, if_neg h0, if_pos h1]
        exact put41_high_n _ _ _ _ _ _ w hp h1 he he2
      · simp only [if_pos he, if_neg h0, if_neg h1]
        exact put41_mid_n _ _ _ _ _ _ w hp (by omega) (by omega) he he2
  · by_cases h0 : a0_2 < 0
    · simp only [if_neg he, if_pos h0]
      exact put41_low_p _ _ _ _ _ _ w hp h0 (by omega)
    · by_cases h1 : 1099511627775 < a0_2
      · simp only [if_neg he, if_neg h0, if_pos h1]
        exact put41_high_p _ _ _ _ _ _ w hp h1 (by omega)
      · simp only [if_neg he, if_neg h0, if_neg h1]
        exact put41_mid_p _ _ _ _ _ _ w hp (by omega) (by omega) (by omega)

/-! ### trickleref01_Wrap: function 55 -/
def trickleref01_Wrap.f (a0 : Int) : Option (Int) := if (Int.tmod a0 65536) < 0 then (if (wrap64 ((Int.tmod a0 65536) + 65536)) ≥ 32768 then (some (IntKind.i16.wrap (wrap64 ((wrap64 ((Int.tmod a0 65536) + 65536)) - 65536)))) else (some (IntKind.i16.wrap (wrap64 ((Int.tmod a0 65536) + 65536))))) else (if (Int.tmod a0 65536) ≥ 32768 then (some (IntKind.i16.wrap (wrap64 ((Int.tmod a0 65536) - 65536)))) else (some (IntKind.i16.wrap (Int.tmod a0 65536))))
set_option maxHeartbeats 8000000 in
set_option maxRecDepth 100000 in
theorem trickleref01_Wrap.calls (a0 : Int) (r : Int) (w : World) (h : trickleref01_Wrap.f a0 = some r) :
    Calls Try.prog 55 #[.int .i64 a0] w fun e w' => e = .returned (.int .i16 r) ∧ Drawn0 w w' := by
  have H : (if (Int.tmod a0 65536) < 0 then (if (wrap64 ((Int.tmod a0 65536) + 65536)) ≥ 32768 then (some (IntKind.i16.wrap (wrap64 ((wrap64 ((Int.tmod a0 65536) + 65536)) - 65536)))) else (some (IntKind.i16.wrap (wrap64 ((Int.tmod a0 65536) + 65536))))) else (if (Int.tmod a0 65536) ≥ 32768 then (some (IntKind.i16.wrap (wrap64 ((Int.tmod a0 65536) - 65536)))) else (some (IntKind.i16.wrap (Int.tmod a0 65536))))) = some r := h
  clear h
  by_cases c2 : (Int.tmod a0 65536) < 0
  · rw [if_pos c2] at H
    have c2b0 : decide ((Int.tmod a0 65536) < 0) = true := decide_eq_true c2
    clear c2
    by_cases c3 : (wrap64 ((Int.tmod a0 65536) + 65536)) ≥ 32768
    · rw [if_pos c3] at H
      have c3b0 : decide (32768 ≤ (wrap64 ((Int.tmod a0 65536) + 65536))) = true := decide_eq_true c3
      clear c3
      obtain rfl := Option.some.inj H
      go_enter Try.func55, Try.ntmps55
      go_wp2
      go_ret
      exact ⟨by first | rfl | (simp; done) | (simp [*]; done), by repeat (first | exact Drawn0.refl _ | apply Drawn0.step)⟩
    · rw [if_neg c3] at H
      have c3b0 : decide (32768 ≤ (wrap64 ((Int.tmod a0 65536) + 65536))) = false := decide_eq_false c3
      clear c3
      obtain rfl := Option.some.inj H
      go_enter Try.func55, Try.ntmps55
      go_wp2
      go_ret
      exact ⟨by first | rfl | (simp; done) | (simp [*]; done), by repeat (first | exact Drawn0.refl _ | apply Drawn0.step)⟩
  · rw [if_neg c2] at H
    have c2b0 : decide ((Int.tmod a0 65536) < 0) = false := decide_eq_false c2
    clear c2
    by_cases c4 : (Int.tmod a0 65536) ≥ 32768
    · rw [if_pos c4] at H
      have c4b0 : decide (32768 ≤ (Int.tmod a0 65536)) = true := decide_eq_true c4
      clear c4
      obtain rfl := Option.some.inj H
      go_enter Try.func55, Try.ntmps55
      go_wp2
      go_ret
      exact ⟨by first | rfl | (simp; done) | (simp [*]; done), by repeat (first | exact Drawn0.refl _ | apply Drawn0.step)⟩
    · rw [if_neg c4] at H
      have c4b0 : decide (32768 ≤ (Int.tmod a0 65536)) = false := decide_eq_false c4
      clear c4
      obtain rfl := Option.some.inj H
      go_enter Try.func55, Try.ntmps55
      go_wp2
      go_ret
      exact ⟨by first | rfl | (simp; done) | (simp [*]; done), by repeat (first | exact Drawn0.refl _ | apply Drawn0.step)⟩

/-! ### trickleref01_Get: function 52 -/
def trickleref01_Get.f (a0_0 : Int) (a0_1 : Int) : Option (Int) := (trickleref01_Wrap.f (wrap64 ((wrap64 (a0_0)) + (wrap64 (256 * (wrap64 (a0_1))))))).bind fun t280 => (some t280)
set_option maxHeartbeats 8000000 in
set_option maxRecDepth 100000 in
theorem trickleref01_Get.calls (a0_0 : Int) (a0_1 : Int) (r : Int) (w : World) (h : trickleref01_Get.f a0_0 a0_1 = some r) :
    Calls Try.prog 52 #[.agg #[.int .u8 a0_0, .int .u8 a0_1]] w fun e w' => e = .returned (.int .i16 r) ∧ Below w.heap.size w w' := by
  have hu87 := Try.underlying87
  have HB := Aside0.mk (Below.refl w.heap.size w)
  have H : ((trickleref01_Wrap.f (wrap64 ((wrap64 (a0_0)) + (wrap64 (256 * (wrap64 (a0_1))))))).bind fun t280 => (some t280)) = some r := h
  clear h
  replace H := Option.bind_eq_some_iff.mp H
  obtain ⟨t280, A20, H⟩ := H
  replace H : (some t280) = some r := H
  have A2 := Aside0.mk A20
  clear A20
  obtain rfl := Option.some.inj H
  go_enter Try.func52, Try.ntmps52
  go_wp2_with (first | ((with_reducible refine gate_dst (N := 1) rfl ?_); refine box_event ?hg (N := 1) ?hd (cs := #[.int .u8 a0_0, .int .u8 a0_1]) (t := 87) ?hr ?_; (case hd => rfl); (case hg => rfl); (case hr => first | (go_simp; done) | (go_simp; rfl)); intro gb279 hg w3 hbox hb; have n0_ := Aside0.mk (below_step (by repeat (first | (with_reducible first | exact HB.out | apply below_alloc | apply pw_below_drewN | apply below_drew1) | exact HB.out)) hb); have n1_ := Aside0.mk (hbox); have n2_ := Aside0.mk ((by rw [hg]; exact (below_size (by repeat (first | (with_reducible first | exact HB.out | apply below_alloc | apply pw_below_drewN | apply below_drew1) | exact HB.out))) : w.heap.size ≤ gb279)); have n3_ := Aside0.mk ((by rw [hg]; exact (below_size (by repeat (first | (with_reducible first | exact HB.out | apply below_alloc | apply pw_below_drewN | apply below_drew1) | exact HB.out))) : w.heap.size ≤ gb279)); clear HB; have HB := n0_; have BK279 := n1_; have GW279 := n2_; have GE279 := n3_; clear n0_ n1_ n2_ n3_; clear hb hbox hg; have hcz4_0 : w3.cell? ⟨gb279, 0, none⟩ = some (.int .u8 a0_0) := (blk_cell BK279.out 0).trans rfl; have hcz4_1 : w3.cell? ⟨gb279, 1, none⟩ = some (.int .u8 a0_1) := (blk_cell BK279.out 1).trans rfl; have hfz4_0 := blk_frozen BK279.out 0; have hfz4_1 := blk_frozen BK279.out 1) | ((with_reducible refine gate_callee (f := 55) rfl ?_); refine goesL_ (some 11) rfl rfl Try.func55 (by kernel_rfl) rfl #[.int .i64 (wrap64 ((wrap64 (a0_0)) + (wrap64 (256 * (wrap64 (a0_1))))))] rfl (by (try simp only [List.map_toArray, List.map_cons, List.map_nil]); first | done | rfl | (simp only [List.length_drop, List.length_take]; rfl)) ?_; (with_reducible refine (trickleref01_Wrap.calls (wrap64 ((wrap64 (a0_0)) + (wrap64 (256 * (wrap64 (a0_1)))))) t280 _ A2.out).mono ?_); rintro e w' ⟨rfl, ⟨nd, rfl⟩⟩; refine ⟨_, rfl, ?_⟩))
  go_ret
  exact ⟨by first | rfl | (simp [errW_none, errW_some] <;> rfl) | (simp [*, errW_none, errW_some] <;> rfl), by repeat (first | (with_reducible first | exact HB.out | apply below_alloc | apply pw_below_drewN | apply below_drew1 | refine below_set ?_ GE279.out) | exact HB.out)⟩

/-! ### trickleref41_Get: function 35 -/
/-- The number of five bytes, as the reference reckons it. -/
def refT (b3 b4 b5 b6 b7 : Int) : Int := (((b7 * 256 + b6) * 256 + b5) * 256 + b4) * 256 + b3
set_option maxHeartbeats 4000000 in
set_option maxRecDepth 100000 in
theorem get41_walk (b0 b1 b2 b3 b4 b5 b6 b7 r : Int) (w : World) (hr : trickleref01_Get.f b0 b1 = some r) (h2 : 0 ≤ b2 ∧ b2 ≤ 255) (h3 : 0 ≤ b3 ∧ b3 ≤ 255) (h4 : 0 ≤ b4 ∧ b4 ≤ 255) (h5 : 0 ≤ b5 ∧ b5 ≤ 255) (h6 : 0 ≤ b6 ∧ b6 ≤ 255) (h7 : 0 ≤ b7 ∧ b7 ≤ 255) :
    Calls Try.prog 35 #[.agg #[.int .u8 b0, .int .u8 b1, .int .u8 b2, .int .u8 b3, .int .u8 b4, .int .u8 b5, .int .u8 b6, .int .u8 b7]] w fun e w' => e = .returned (.agg #[.int .i16 r, .int .i64 (refT b3 b4 b5 b6 b7), .int .i64 (refT b3 b4 b5 b6 b7), .int .i64 (IntKind.i64.wrap b2)]) ∧ Below w.heap.size w w' := by
  have p2 := h2.1
  have q2 := h2.2
  have p3 := h3.1
  have q3 := h3.2
  have p4 := h4.1
  have q4 := h4.2
  have p5 := h5.1
  have q5 := h5.2
  have p6 := h6.1
  have q6 := h6.2
  have p7 := h7.1
  have q7 := h7.2
  clear h2 h3 h4 h5 h6 h7
  go_enter Try.func35, Try.ntmps35
  go_wp2
  refine wp_loop_rounds 6 ?_
  rw [rounds_succ]
  go_wp2_with fail
  rw [rounds_succ]
  go_wp2_with fail
  rw [rounds_succ]
  go_wp2_with fail
  rw [rounds_succ]
  go_wp2_with fail
  rw [rounds_succ]
  go_wp2_with fail
  rw [rounds_succ]
  go_wp2_with fail
  obtain ⟨t, ht⟩ : ∃ t, refT b3 b4 b5 b6 b7 = t := ⟨_, rfl⟩
  have ht' : ((((b7 * 256 + b6) * 256 + b5) * 256 + b4) * 256 + b3) = t := ht
  rw [ht']
  have HT := Aside0.mk ht
  clear ht ht'
  have d0 : ((w.alloc (.cells #[.int .u8 b0, .int .u8 b1, .int .u8 b2, .int .u8 b3, .int .u8 b4, .int .u8 b5, .int .u8 b6, .int .u8 b7] 71)).alloc (.cells #[.int .i16 0, .int .i64 0, .int .i64 0, .int .i64 0] 49)).cell? ⟨w.heap.size, 0, none⟩ = some (.int .u8 b0) := (blk_cell (blk_alloc (blk_new w _) _) 0).trans rfl
  have d1 : ((w.alloc (.cells #[.int .u8 b0, .int .u8 b1, .int .u8 b2, .int .u8 b3, .int .u8 b4, .int .u8 b5, .int .u8 b6, .int .u8 b7] 71)).alloc (.cells #[.int .i16 0, .int .i64 0, .int .i64 0, .int .i64 0] 49)).cell? ⟨w.heap.size, 1, none⟩ = some (.int .u8 b1) := (blk_cell (blk_alloc (blk_new w _) _) 1).trans rfl
  have d2 : ((w.alloc (.cells #[.int .u8 b0, .int .u8 b1, .int .u8 b2, .int .u8 b3, .int .u8 b4, .int .u8 b5, .int .u8 b6, .int .u8 b7] 71)).alloc (.cells #[.int .i16 0, .int .i64 0, .int .i64 0, .int .i64 0] 49)).cell? ⟨w.heap.size, 2, none⟩ = some (.int .u8 b2) := (blk_cell (blk_alloc (blk_new w _) _) 2).trans rfl
  have BZ := Aside0.mk (show ((w.alloc (.cells #[.int .u8 b0, .int .u8 b1, .int .u8 b2, .int .u8 b3, .int .u8 b4, .int .u8 b5, .int .u8 b6, .int .u8 b7] 71)).alloc (.cells #[.int .i16 0, .int .i64 0, .int .i64 0, .int .i64 0] 49)).heap[w.heap.size + 1]? = some (.cells #[.int .i16 0, .int .i64 0, .int .i64 0, .int .i64 0] 49 (0, 0)) by simpa using blk_new (w.alloc (.cells #[.int .u8 b0, .int .u8 b1, .int .u8 b2, .int .u8 b3, .int .u8 b4, .int .u8 b5, .int .u8 b6, .int .u8 b7] 71)) (.cells #[.int .i16 0, .int .i64 0, .int .i64 0, .int .i64 0] 49))
  have HB := Aside0.mk (below_alloc (below_alloc (Below.refl w.heap.size w) (.cells #[.int .u8 b0, .int .u8 b1, .int .u8 b2, .int .u8 b3, .int .u8 b4, .int .u8 b5, .int .u8 b6, .int .u8 b7] 71)) (.cells #[.int .i16 0, .int .i64 0, .int .i64 0, .int .i64 0] 49))
  generalize (w.alloc (.cells #[.int .u8 b0, .int .u8 b1, .int .u8 b2, .int .u8 b3, .int .u8 b4, .int .u8 b5, .int .u8 b6, .int .u8 b7] 71)).alloc (.cells #[.int .i16 0, .int .i64 0, .int .i64 0, .int .i64 0] 49) = W at *
  go_region_held3 (fun w' => w'.cell? ⟨w.heap.size, 0, none⟩ = some (.int .u8 b0) ∧ w'.cell? ⟨w.heap.size, 1, none⟩ = some (.int .u8 b1) ∧ w'.cell? ⟨w.heap.size, 2, none⟩ = some (.int .u8 b2)) (first | exact ⟨d0, d1, d2⟩ | exact keep3 (by assumption) (by assumption) | exact far3 (far3 (far3 (far3 (by assumption) (show w.heap.size + 1 ≠ w.heap.size by omega)) (show w.heap.size + 1 ≠ w.heap.size by omega)) (show w.heap.size + 1 ≠ w.heap.size by omega)) (show w.heap.size + 1 ≠ w.heap.size by omega) | (trace_state; fail))
    (first | (go_at_call 52; refine (trickleref01_Get.calls b0 b1 r _ hr).mono ?_; rintro e w2 ⟨rfl, hb2⟩; have zb := blk_below (blk_drew BZ.out) hb2; have ZB := Aside0.mk zb; have HB2 := Aside0.mk (below_step (below_drew HB.out) hb2); have z0 : w2.cell? ⟨w.heap.size + 1, 0, none⟩ = some (.int .i16 0) := (blk_cell zb 0).trans rfl; have z1 : w2.cell? ⟨w.heap.size + 1, 1, none⟩ = some (.int .i64 0) := (blk_cell zb 1).trans rfl; have z2 : w2.cell? ⟨w.heap.size + 1, 2, none⟩ = some (.int .i64 0) := (blk_cell zb 2).trans rfl; have z3 : w2.cell? ⟨w.heap.size + 1, 3, none⟩ = some (.int .i64 0) := (blk_cell zb 3).trans rfl; have f0 := blk_frozen zb 0; have f1 := blk_frozen zb 1; have f2 := blk_frozen zb 2; have f3 := blk_frozen zb 3; clear zb))
  have HT2 := HT.out
  subst HT2
  go_wp2
  refine bodyPost_ret (results_cell_row rfl _ _ (w.heap.size + 1) 49 #[.int .i16 r, .int .i64 (refT b3 b4 b5 b6 b7), .int .i64 (refT b3 b4 b5 b6 b7), .int .i64 (IntKind.i64.wrap b2)] (0, 0) _ rfl (blk_put (blk_put (blk_put (blk_put ZB.out 0 _ rfl) 1 _ rfl) 2 _ rfl) 3 _ rfl) Try.underlying49 rfl (by kernel_rfl)) rfl ?_
  exact ⟨rfl, below_set (below_set (below_set (below_set HB2.out (show w.heap.size ≤ w.heap.size + 1 by omega)) (show w.heap.size ≤ w.heap.size + 1 by omega)) (show w.heap.size ≤ w.heap.size + 1 by omega)) (show w.heap.size ≤ w.heap.size + 1 by omega)⟩

def trickleref41_Get.f (a0_0 : Int) (a0_1 : Int) (a0_2 : Int) (a0_3 : Int) (a0_4 : Int) (a0_5 : Int) (a0_6 : Int) (a0_7 : Int) : Option (Int × Int × Int × Int) := if (0 ≤ a0_2 ∧ a0_2 ≤ 255) ∧ (0 ≤ a0_3 ∧ a0_3 ≤ 255) ∧ (0 ≤ a0_4 ∧ a0_4 ≤ 255) ∧ (0 ≤ a0_5 ∧ a0_5 ≤ 255) ∧ (0 ≤ a0_6 ∧ a0_6 ≤ 255) ∧ (0 ≤ a0_7 ∧ a0_7 ≤ 255) then (trickleref01_Get.f a0_0 a0_1).bind fun r => some (r, refT a0_3 a0_4 a0_5 a0_6 a0_7, refT a0_3 a0_4 a0_5 a0_6 a0_7, IntKind.i64.wrap a0_2) else none
theorem trickleref41_Get.calls (a0_0 : Int) (a0_1 : Int) (a0_2 : Int) (a0_3 : Int) (a0_4 : Int) (a0_5 : Int) (a0_6 : Int) (a0_7 : Int) (r1 : Int) (r2 : Int) (r3 : Int) (r4 : Int) (w : World) (h : trickleref41_Get.f a0_0 a0_1 a0_2 a0_3 a0_4 a0_5 a0_6 a0_7 = some (r1, r2, r3, r4)) :
    Calls Try.prog 35 #[.agg #[.int .u8 a0_0, .int .u8 a0_1, .int .u8 a0_2, .int .u8 a0_3, .int .u8 a0_4, .int .u8 a0_5, .int .u8 a0_6, .int .u8 a0_7]] w fun e w' => e = .returned (.agg #[.int .i16 r1, .int .i64 r2, .int .i64 r3, .int .i64 r4]) ∧ Below w.heap.size w w' := by
  unfold trickleref41_Get.f at h
  split at h
  · rename_i hb
    obtain ⟨h2, h3, h4, h5, h6, h7⟩ := hb
    obtain ⟨p, hp, h⟩ := Option.bind_eq_some_iff.1 h
    simp only [Option.some.injEq, Prod.mk.injEq] at h
    obtain ⟨rfl, rfl, rfl, rfl⟩ := h
    exact get41_walk _ _ _ _ _ _ _ _ _ w hp h2 h3 h4 h5 h6 h7
  · cases h

-- NOT PRINTED: function 8 (tricklelaw41_ExpiryPut)

end Go.Proofs.Ytgefhejpaojhbaa.Pr
