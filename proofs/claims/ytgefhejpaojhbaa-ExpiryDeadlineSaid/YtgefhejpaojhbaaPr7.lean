-- Written by a program of this session for this claim.
import Derived.Test.YtgefhejpaojhbaaPr0
import Derived.Test.YtgefhejpaojhbaaPr5
namespace Go.Proofs.Ytgefhejpaojhbaa.Pr
open Go.RowKit Go.Proofs.YtgefhejpaojhbaaW.PrintWords Go.Proofs.YtgefhejpaojhbaaW.PrintLast Go.Proofs.YtgefhejpaojhbaaW.PrintMore
attribute [local go_sem] max2_int min2_int max_two min_two max_three min_three max_four min_four   -- for this text's walks alone
set_option linter.unusedVariables false
set_option linter.unusedSimpArgs false

/-! ### trickleref41_Deadline: function 24 -/

theorem most41_same (w : World) : Calls Try.prog 48 #[] w fun e w' => e = .returned (.int .i64 1099511627776) ∧ w' = w := by
  go_enter Try.func48, Try.ntmps48
  go_wp2
  go_ret
  exact ⟨rfl, rfl⟩
set_option maxHeartbeats 2000000 in
set_option maxRecDepth 100000 in
theorem dl_bad1 (a b c d n : Int) (w : World) (hv : trickleref41_Valid.f a b c d = some false) :
    Calls Try.prog 24 #[.agg #[.int .i16 a, .int .i64 b, .int .i64 c, .int .i64 d], .int .i64 n] w fun e w' => e = .returned (.tuple #[.int .i64 0, .bool false]) ∧ Below w.heap.size w w' := by
  have HV := Aside0.mk hv
  clear hv
  go_enter Try.func24, Try.ntmps24
  go_wp2_with fail
  refine (trickleref41_Valid.calls _ _ _ _ _ _ HV.out).mono ?_
  rintro e w1 ⟨rfl, hb⟩
  have HB := Aside0.mk (below_step (below_alloc (Below.refl w.heap.size w) _) hb)
  clear hb
  go_wp2
  go_ret2
  exact ⟨rfl, HB.out⟩
set_option maxHeartbeats 2000000 in
set_option maxRecDepth 100000 in
theorem dl_bad2 (a b c d n : Int) (w : World) (hv : trickleref41_Valid.f a b c d = some true) (hl : trickleref41_limit.f n = some false) :
    Calls Try.prog 24 #[.agg #[.int .i16 a, .int .i64 b, .int .i64 c, .int .i64 d], .int .i64 n] w fun e w' => e = .returned (.tuple #[.int .i64 0, .bool false]) ∧ Below w.heap.size w w' := by
  have HV := Aside0.mk hv
  have HL := Aside0.mk hl
  clear hv hl
  go_enter Try.func24, Try.ntmps24
  go_wp2_with fail
  refine (trickleref41_Valid.calls _ _ _ _ _ _ HV.out).mono ?_
  rintro e w1 ⟨rfl, hb⟩
  have HB := Aside0.mk (below_step (below_alloc (Below.refl w.heap.size w) _) hb)
  clear hb
  go_wp2_with fail
  refine (trickleref41_limit.calls _ _ _ HL.out).mono ?_
  rintro e w2 ⟨rfl, hd⟩
  have HB2 := Aside0.mk (below_step HB.out hd.below)
  clear hd
  go_wp2
  go_ret2
  exact ⟨rfl, HB2.out⟩
set_option maxHeartbeats 2000000 in
set_option maxRecDepth 100000 in
theorem dl_ok (a b c d n : Int) (w : World) (hv : trickleref41_Valid.f a b c d = some true) (hl : trickleref41_limit.f n = some true) :
    Calls Try.prog 24 #[.agg #[.int .i16 a, .int .i64 b, .int .i64 c, .int .i64 d], .int .i64 n] w fun e w' => e = .returned (.tuple #[.int .i64 (if wrap64 (c + n) > 1099511627776 then 1099511627776 else wrap64 (c + n)), .bool true]) ∧ Below w.heap.size w w' := by
  have HV := Aside0.mk hv
  have HL := Aside0.mk hl
  clear hv hl
  by_cases hgt : wrap64 (c + n) > 1099511627776
  · rw [if_pos hgt]
    have c1 : decide (1099511627776 < wrap64 (c + n)) = true := decide_eq_true hgt
    clear hgt
    go_enter Try.func24, Try.ntmps24
    go_wp2_with fail
    refine (trickleref41_Valid.calls _ _ _ _ _ _ HV.out).mono ?_
    rintro e w1 ⟨rfl, hb⟩
    have BK : w1.heap[w.heap.size]? = some (.cells #[.int .i16 a, .int .i64 b, .int .i64 c, .int .i64 d] 49 (0, 0)) := blk_below (blk_new w _) hb
    have k2 : w1.cell? ⟨w.heap.size, 2, none⟩ = some (.int .i64 c) := (blk_cell BK 2).trans rfl
    have HB := Aside0.mk (below_step (below_alloc (Below.refl w.heap.size w) _) hb)
    clear hb BK
    go_wp2_with fail
    refine (trickleref41_limit.calls _ _ _ HL.out).mono ?_
    rintro e w2 ⟨rfl, hd⟩
    have k2b := pw_cell_below hd.below k2
    have HB2 := Aside0.mk (below_step HB.out hd.below)
    clear hd k2 HB
    go_wp2_with fail
    go_quiet ((go_at_call 48; exact Calls.quiet_of_same (most41_same _)))
    go_wp2_with (go_at_call 48; refine (most41_same _).mono ?_; rintro e w' ⟨rfl, rfl⟩)
    go_ret2
    exact ⟨rfl, pw_below_drewN HB2.out _⟩
  · rw [if_neg hgt]
    have c1 : decide (1099511627776 < wrap64 (c + n)) = false := decide_eq_false hgt
    clear hgt
    go_enter Try.func24, Try.ntmps24
    go_wp2_with fail
    refine (trickleref41_Valid.calls _ _ _ _ _ _ HV.out).mono ?_
    rintro e w1 ⟨rfl, hb⟩
    have BK : w1.heap[w.heap.size]? = some (.cells #[.int .i16 a, .int .i64 b, .int .i64 c, .int .i64 d] 49 (0, 0)) := blk_below (blk_new w _) hb
    have k2 : w1.cell? ⟨w.heap.size, 2, none⟩ = some (.int .i64 c) := (blk_cell BK 2).trans rfl
    have HB := Aside0.mk (below_step (below_alloc (Below.refl w.heap.size w) _) hb)
    clear hb BK
    go_wp2_with fail
    refine (trickleref41_limit.calls _ _ _ HL.out).mono ?_
    rintro e w2 ⟨rfl, hd⟩
    have k2b := pw_cell_below hd.below k2
    have HB2 := Aside0.mk (below_step HB.out hd.below)
    clear hd k2 HB
    go_wp2_with fail
    go_quiet ((go_at_call 48; exact Calls.quiet_of_same (most41_same _)))
    go_wp2
    go_ret2
    exact ⟨rfl, pw_below_drewN HB2.out _⟩
def trickleref41_Deadline.f (a0_0 : Int) (a0_1 : Int) (a0_2 : Int) (a0_3 : Int) (a1 : Int) : Option (Int × Bool) := (trickleref41_Valid.f a0_0 a0_1 a0_2 a0_3).bind fun v => if v = true then ((trickleref41_limit.f a1).bind fun l => if l = true then some (if wrap64 (a0_2 + a1) > 1099511627776 then 1099511627776 else wrap64 (a0_2 + a1), true) else some (0, false)) else some (0, false)
theorem trickleref41_Deadline.calls (a0_0 : Int) (a0_1 : Int) (a0_2 : Int) (a0_3 : Int) (a1 : Int) (r1 : Int) (r2 : Bool) (w : World) (h : trickleref41_Deadline.f a0_0 a0_1 a0_2 a0_3 a1 = some (r1, r2)) :
    Calls Try.prog 24 #[.agg #[.int .i16 a0_0, .int .i64 a0_1, .int .i64 a0_2, .int .i64 a0_3], .int .i64 a1] w fun e w' => e = .returned (.tuple #[.int .i64 r1, .bool r2]) ∧ Below w.heap.size w w' := by
  unfold trickleref41_Deadline.f at h
  obtain ⟨v, hv, h⟩ := Option.bind_eq_some_iff.1 h
  cases v with
  | false =>
    rw [if_neg (by simp)] at h
    simp only [Option.some.injEq, Prod.mk.injEq] at h
    obtain ⟨rfl, rfl⟩ := h
    exact dl_bad1 _ _ _ _ _ w hv
  | true =>
    rw [if_pos rfl] at h
    obtain ⟨l, hl, h⟩ := Option.bind_eq_some_iff.1 h
    cases l with
    | false =>
      rw [if_neg (by simp)] at h
      simp only [Option.some.injEq, Prod.mk.injEq] at h
      obtain ⟨rfl, rfl⟩ := h
      exact dl_bad2 _ _ _ _ _ w hv hl
    | true =>
      rw [if_pos rfl] at h
      simp only [Option.some.injEq, Prod.mk.injEq] at h
      obtain ⟨h1, rfl⟩ := h
      subst h1
      exact dl_ok _ _ _ _ _ w hv hl

end Go.Proofs.Ytgefhejpaojhbaa.Pr
