/-
  ExpirySound: the cases where the first test turns: the fixed examples are the answer.
-/
import Derived.Test.YtgefhejpaojhbaaSndPlain
import Derived.Test.YtgefhejpaojhbaaPlain
import Derived.Test.YtgefhejpaojhbaaOpen
import Derived.Outline
namespace Go.Proofs.Ytgefhejpaojhbaa.Snd
open Go.RowKit Go.ChangeShapes Go.WideShapes Go.ChangeAt Go.Proofs.Ytgefhejpaojhbaa.Open Go.Proofs.YtgefhejpaojhbaaW.PrintWords Go.Proofs.YtgefhejpaojhbaaW.PrintLast
set_option maxHeartbeats 1000000 in
set_option maxRecDepth 100000 in
theorem out0 (e s most : Int) (a : Option Addr) (n cap : Nat) (w : World) (hR : ¬ (0 ≤ e ∧ e ≤ 500 ∧ 1 ≤ s ∧ s ≤ 1099511627776)) :
    Calls Try.prog 3 #[.agg #[.int .i64 e, .int .i64 s], .slice a n cap, .int .i64 most] w fun e w' => e = .returned (.bool true) ∧ Below w.heap.size w w' := by
  have hr := right_tells e s
  rw [decide_eq_false hR] at hr
  have HRt := Aside0.mk hr
  clear hr hR
  go_enter Try.func3, Try.ntmps3
  go_wp2_with fail
  refine (Pr.tricklelaw41_examples.calls true _ rfl).mono ?_
  rintro ee w1 ⟨rfl, hb1⟩
  have BK := blk_below (blk_new w (.cells #[.int .i64 e, .int .i64 s] 23)) hb1
  have k0 : w1.cell? ⟨w.heap.size, 0, none⟩ = some (.int .i64 e) := (blk_cell BK 0).trans rfl
  have k1 : w1.cell? ⟨w.heap.size, 1, none⟩ = some (.int .i64 s) := (blk_cell BK 1).trans rfl
  have BKc := Aside0.mk BK
  have HB1 := Aside0.mk (below_step (below_alloc (Below.refl w.heap.size w) _) hb1)
  clear BK hb1
  go_wp2_with fail
  refine (Ps.trickleref09_Right.calls _ _ _ _ HRt.out).mono ?_
  rintro ee w2 ⟨rfl, hb2⟩
  have HB2 := Aside0.mk (below_step HB1.out hb2)
  clear BKc HB1 hb2 k0 k1
  go_wp2_with fail
  refine (Pr.tricklelaw41_examples.calls true _ rfl).mono ?_
  rintro ee w3 ⟨rfl, hb3⟩
  have HB3 := Aside0.mk (below_step HB2.out hb3)
  clear HB2 hb3
  go_wp2
  go_ret
  exact ⟨rfl, HB3.out⟩
set_option maxHeartbeats 1000000 in
set_option maxRecDepth 100000 in
theorem out1 (e s most : Int) (a : Option Addr) (n cap : Nat) (w : World) (hR : 0 ≤ e ∧ e ≤ 500 ∧ 1 ≤ s ∧ s ≤ 1099511627776) (g1 : (n : Int) > 60) :
    Calls Try.prog 3 #[.agg #[.int .i64 e, .int .i64 s], .slice a n cap, .int .i64 most] w fun e w' => e = .returned (.bool true) ∧ Below w.heap.size w w' := by
  have hr := right_tells e s
  rw [decide_eq_true hR] at hr
  have HRt := Aside0.mk hr
  clear hr hR
  have c1 : decide ((60 : Int) < (n : Int)) = true := decide_eq_true g1
  have c1' : decide (60 < n) = true := decide_eq_true (by omega)
  go_enter Try.func3, Try.ntmps3
  go_wp2_with fail
  refine (Pr.tricklelaw41_examples.calls true _ rfl).mono ?_
  rintro ee w1 ⟨rfl, hb1⟩
  have BK := blk_below (blk_new w (.cells #[.int .i64 e, .int .i64 s] 23)) hb1
  have k0 : w1.cell? ⟨w.heap.size, 0, none⟩ = some (.int .i64 e) := (blk_cell BK 0).trans rfl
  have k1 : w1.cell? ⟨w.heap.size, 1, none⟩ = some (.int .i64 s) := (blk_cell BK 1).trans rfl
  have BKc := Aside0.mk BK
  have HB1 := Aside0.mk (below_step (below_alloc (Below.refl w.heap.size w) _) hb1)
  clear BK hb1
  go_wp2_with fail
  refine (Ps.trickleref09_Right.calls _ _ _ _ HRt.out).mono ?_
  rintro ee w2 ⟨rfl, hb2⟩
  have HB2 := Aside0.mk (below_step HB1.out hb2)
  clear BKc HB1 hb2 k0 k1
  go_wp2_with fail
  refine (Pr.tricklelaw41_examples.calls true _ rfl).mono ?_
  rintro ee w3 ⟨rfl, hb3⟩
  have HB3 := Aside0.mk (below_step HB2.out hb3)
  clear HB2 hb3
  go_wp2
  go_ret
  exact ⟨rfl, HB3.out⟩
set_option maxHeartbeats 1000000 in
set_option maxRecDepth 100000 in
theorem out2 (e s most : Int) (a : Option Addr) (n cap : Nat) (w : World) (hR : 0 ≤ e ∧ e ≤ 500 ∧ 1 ≤ s ∧ s ≤ 1099511627776) (g1 : ¬ (n : Int) > 60) (g2 : most < 0) :
    Calls Try.prog 3 #[.agg #[.int .i64 e, .int .i64 s], .slice a n cap, .int .i64 most] w fun e w' => e = .returned (.bool true) ∧ Below w.heap.size w w' := by
  have hr := right_tells e s
  rw [decide_eq_true hR] at hr
  have HRt := Aside0.mk hr
  clear hr hR
  have c1 : decide ((60 : Int) < (n : Int)) = false := decide_eq_false g1
  have c1' : decide (60 < n) = false := decide_eq_false (by omega)
  have c2 : decide (most < 0) = true := decide_eq_true g2
  go_enter Try.func3, Try.ntmps3
  go_wp2_with fail
  refine (Pr.tricklelaw41_examples.calls true _ rfl).mono ?_
  rintro ee w1 ⟨rfl, hb1⟩
  have BK := blk_below (blk_new w (.cells #[.int .i64 e, .int .i64 s] 23)) hb1
  have k0 : w1.cell? ⟨w.heap.size, 0, none⟩ = some (.int .i64 e) := (blk_cell BK 0).trans rfl
  have k1 : w1.cell? ⟨w.heap.size, 1, none⟩ = some (.int .i64 s) := (blk_cell BK 1).trans rfl
  have BKc := Aside0.mk BK
  have HB1 := Aside0.mk (below_step (below_alloc (Below.refl w.heap.size w) _) hb1)
  clear BK hb1
  go_wp2_with fail
  refine (Ps.trickleref09_Right.calls _ _ _ _ HRt.out).mono ?_
  rintro ee w2 ⟨rfl, hb2⟩
  have HB2 := Aside0.mk (below_step HB1.out hb2)
  clear BKc HB1 hb2 k0 k1
  go_wp2_with fail
  refine (Pr.tricklelaw41_examples.calls true _ rfl).mono ?_
  rintro ee w3 ⟨rfl, hb3⟩
  have HB3 := Aside0.mk (below_step HB2.out hb3)
  clear HB2 hb3
  go_wp2
  go_ret
  exact ⟨rfl, HB3.out⟩
set_option maxHeartbeats 1000000 in
set_option maxRecDepth 100000 in
theorem out3 (e s most : Int) (a : Option Addr) (n cap : Nat) (w : World) (hR : 0 ≤ e ∧ e ≤ 500 ∧ 1 ≤ s ∧ s ≤ 1099511627776) (g1 : ¬ (n : Int) > 60) (g2 : ¬ most < 0) (g3 : most > 1099511627776) :
    Calls Try.prog 3 #[.agg #[.int .i64 e, .int .i64 s], .slice a n cap, .int .i64 most] w fun e w' => e = .returned (.bool true) ∧ Below w.heap.size w w' := by
  have hr := right_tells e s
  rw [decide_eq_true hR] at hr
  have HRt := Aside0.mk hr
  clear hr hR
  have c1 : decide ((60 : Int) < (n : Int)) = false := decide_eq_false g1
  have c1' : decide (60 < n) = false := decide_eq_false (by omega)
  have c2 : decide (most < 0) = false := decide_eq_false g2
  have c3 : decide ((1099511627776 : Int) < most) = true := decide_eq_true g3
  go_enter Try.func3, Try.ntmps3
  go_wp2_with fail
  refine (Pr.tricklelaw41_examples.calls true _ rfl).mono ?_
  rintro ee w1 ⟨rfl, hb1⟩
  have BK := blk_below (blk_new w (.cells #[.int .i64 e, .int .i64 s] 23)) hb1
  have k0 : w1.cell? ⟨w.heap.size, 0, none⟩ = some (.int .i64 e) := (blk_cell BK 0).trans rfl
  have k1 : w1.cell? ⟨w.heap.size, 1, none⟩ = some (.int .i64 s) := (blk_cell BK 1).trans rfl
  have BKc := Aside0.mk BK
  have HB1 := Aside0.mk (below_step (below_alloc (Below.refl w.heap.size w) _) hb1)
  clear BK hb1
  go_wp2_with fail
  refine (Ps.trickleref09_Right.calls _ _ _ _ HRt.out).mono ?_
  rintro ee w2 ⟨rfl, hb2⟩
  have HB2 := Aside0.mk (below_step HB1.out hb2)
  clear BKc HB1 hb2 k0 k1
  go_wp2_with fail
  refine (Pr.tricklelaw41_examples.calls true _ rfl).mono ?_
  rintro ee w3 ⟨rfl, hb3⟩
  have HB3 := Aside0.mk (below_step HB2.out hb3)
  clear HB2 hb3
  go_wp2
  go_ret
  exact ⟨rfl, HB3.out⟩
end Go.Proofs.Ytgefhejpaojhbaa.Snd
