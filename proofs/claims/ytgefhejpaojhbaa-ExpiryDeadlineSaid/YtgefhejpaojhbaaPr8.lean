-- Written by a program of this session for this claim.
import Derived.Test.YtgefhejpaojhbaaPr0
import Derived.Test.YtgefhejpaojhbaaPr2
import Derived.Test.YtgefhejpaojhbaaPr4
import Derived.Test.YtgefhejpaojhbaaPr5
import Derived.Test.YtgefhejpaojhbaaPr7
namespace Go.Proofs.Ytgefhejpaojhbaa.Pr
open Go.RowKit Go.Proofs.YtgefhejpaojhbaaW.PrintWords Go.Proofs.YtgefhejpaojhbaaW.PrintLast Go.Proofs.YtgefhejpaojhbaaW.PrintMore
attribute [local go_sem] max2_int min2_int max_two min_two max_three min_three max_four min_four   -- for this text's walks alone
set_option linter.unusedVariables false
set_option linter.unusedSimpArgs false

/-! ### tricklelaw41_ExpiryDeadline: function 5 -/
mutual
def tricklelaw41_ExpiryDeadline.j0 : Nat → Int → Bool → Bool → Int → Int → Int → Int → Int → Int → Int → Int → Int → Option (Bool)
  | 0, _, _, _, _, _, _, _, _, _, _, _, _ => none
  | k + 1, x7, x8, x37, x192000, x192001, x192002, x192003, x193000, x193001, x193002, x194000, x194001 => if x37 = true then (some false) else (if x8 = true then (if x7 = 1099511627776 then (tricklelaw41_ExpiryDeadline.j1 k x7 true x192000 x192001 x192002 x192003 x193000 x193001 x193002 x194000 x194001) else (if x194000 < 0 then (tricklelaw41_ExpiryDeadline.j1 k x7 true x192000 x192001 x192002 x192003 x193000 x193001 x193002 x194000 x194001) else (if x194000 > 1099511627776 then (tricklelaw41_ExpiryDeadline.j1 k x7 true x192000 x192001 x192002 x192003 x193000 x193001 x193002 x194000 x194001) else ((trickleref41_Valid.f 0 x193000 x193001 x193002).bind fun t203 => (if t203 = true then (if (Int.tmod x193002 256) = (Int.tmod x192003 256) then (tricklelaw41_ExpiryDeadline.j1 k x7 (decide (x193001 < x192002)) x192000 x192001 x192002 x192003 x193000 x193001 x193002 x194000 x194001) else (tricklelaw41_ExpiryDeadline.j1 k x7 true x192000 x192001 x192002 x192003 x193000 x193001 x193002 x194000 x194001)) else (tricklelaw41_ExpiryDeadline.j1 k x7 true x192000 x192001 x192002 x192003 x193000 x193001 x193002 x194000 x194001)))))) else (tricklelaw41_ExpiryDeadline.j1 k x7 true x192000 x192001 x192002 x192003 x193000 x193001 x193002 x194000 x194001))
def tricklelaw41_ExpiryDeadline.j1 : Nat → Int → Bool → Int → Int → Int → Int → Int → Int → Int → Int → Int → Option (Bool)
  | 0, _, _, _, _, _, _, _, _, _, _, _ => none
  | k + 1, x7, x80, x192000, x192001, x192002, x192003, x193000, x193001, x193002, x194000, x194001 => if x80 = true then (some true) else ((tricklelaw41_own.f x192000 x192001 x192002 x192003).bind fun bt204 => ((tricklelaw41_now.f x193000 x193001 x193002).bind fun bt208 => ((expiry_Usable.f bt204.1 bt204.2.1 bt204.2.2.1 bt204.2.2.2 bt208.1 bt208.2.1 bt208.2.2 x194000 x194001).bind fun t211 => (some (t211 == (decide ((wrap64 (x193001 + x194000)) ≤ x7)))))))
end
def tricklelaw41_ExpiryDeadline.f (k : Nat) (a0_0 : Int) (a0_1 : Int) (a0_2 : Int) (a0_3 : Int) (a1_0 : Int) (a1_1 : Int) (a1_2 : Int) (a2_0 : Int) (a2_1 : Int) : Option (Bool) := (tricklelaw41_own.f a0_0 a0_1 a0_2 a0_3).bind fun bt194 => ((expiry_Deadline.f bt194.1 bt194.2.1 bt194.2.2.1 bt194.2.2.2 a2_1).bind fun bt198 => ((trickleref41_Deadline.f a0_0 a0_1 a0_2 a0_3 a2_1).bind fun bt200 => ((tricklelaw41_examples.f).bind fun t202 => (if t202 = true then (if bt198.1 = bt200.1 then (tricklelaw41_ExpiryDeadline.j0 k bt198.1 bt198.2 (bt198.2 != bt200.2) a0_0 a0_1 a0_2 a0_3 a1_0 a1_1 a1_2 a2_0 a2_1) else (tricklelaw41_ExpiryDeadline.j0 k bt198.1 bt198.2 true a0_0 a0_1 a0_2 a0_3 a1_0 a1_1 a1_2 a2_0 a2_1)) else (tricklelaw41_ExpiryDeadline.j0 k bt198.1 bt198.2 true a0_0 a0_1 a0_2 a0_3 a1_0 a1_1 a1_2 a2_0 a2_1)))))
theorem tricklelaw41_ExpiryDeadline.mono_l : ∀ k, (∀ y0 y1 y2 y3 y4 y5 y6 y7 y8 y9 y10 y11, LeO (tricklelaw41_ExpiryDeadline.j0 k y0 y1 y2 y3 y4 y5 y6 y7 y8 y9 y10 y11) (tricklelaw41_ExpiryDeadline.j0 (k + 1) y0 y1 y2 y3 y4 y5 y6 y7 y8 y9 y10 y11)) ∧ (∀ y0 y1 y2 y3 y4 y5 y6 y7 y8 y9 y10, LeO (tricklelaw41_ExpiryDeadline.j1 k y0 y1 y2 y3 y4 y5 y6 y7 y8 y9 y10) (tricklelaw41_ExpiryDeadline.j1 (k + 1) y0 y1 y2 y3 y4 y5 y6 y7 y8 y9 y10))
  | 0 => ⟨fun _ _ _ _ _ _ _ _ _ _ _ _ r h => by simp [tricklelaw41_ExpiryDeadline.j0] at h, fun _ _ _ _ _ _ _ _ _ _ _ r h => by simp [tricklelaw41_ExpiryDeadline.j1] at h⟩
  | k + 1 => by
    obtain ⟨ih0, ih1⟩ := tricklelaw41_ExpiryDeadline.mono_l k
    refine ⟨?_, ?_⟩
    · intro y0 y1 y2 y3 y4 y5 y6 y7 y8 y9 y10 y11
      unfold tricklelaw41_ExpiryDeadline.j0
      repeat' first
      | (with_reducible exact ih0 _ _ _ _ _ _ _ _ _ _ _ _)
      | (with_reducible exact ih1 _ _ _ _ _ _ _ _ _ _ _)
      | (with_reducible exact LeO.refl _)
      | (with_reducible exact LeO.none _)
      | (with_reducible refine LeO.ite ?_ ?_)
      | (with_reducible refine LeO.bind ?_ (fun _ => ?_))
      | exact ih0 _ _ _ _ _ _ _ _ _ _ _ _
      | exact ih1 _ _ _ _ _ _ _ _ _ _ _
      | exact LeO.none _
      | refine LeO.ite ?_ ?_
      | refine LeO.bind ?_ (fun _ => ?_)
    · intro y0 y1 y2 y3 y4 y5 y6 y7 y8 y9 y10
      unfold tricklelaw41_ExpiryDeadline.j1
      repeat' first
      | (with_reducible exact ih0 _ _ _ _ _ _ _ _ _ _ _ _)
      | (with_reducible exact ih1 _ _ _ _ _ _ _ _ _ _ _)
      | (with_reducible exact LeO.refl _)
      | (with_reducible exact LeO.none _)
      | (with_reducible refine LeO.ite ?_ ?_)
      | (with_reducible refine LeO.bind ?_ (fun _ => ?_))
      | exact ih0 _ _ _ _ _ _ _ _ _ _ _ _
      | exact ih1 _ _ _ _ _ _ _ _ _ _ _
      | exact LeO.none _
      | refine LeO.ite ?_ ?_
      | refine LeO.bind ?_ (fun _ => ?_)
theorem tricklelaw41_ExpiryDeadline.mono : ∀ a0 a1 a2 a3 a4 a5 a6 a7 a8 k, LeO (tricklelaw41_ExpiryDeadline.f k a0 a1 a2 a3 a4 a5 a6 a7 a8) (tricklelaw41_ExpiryDeadline.f (k + 1) a0 a1 a2 a3 a4 a5 a6 a7 a8) := by
  intro a0 a1 a2 a3 a4 a5 a6 a7 a8 k
  obtain ⟨ih0, ih1⟩ := tricklelaw41_ExpiryDeadline.mono_l k
  unfold tricklelaw41_ExpiryDeadline.f
  repeat' first
      | (with_reducible exact ih0 _ _ _ _ _ _ _ _ _ _ _ _)
      | (with_reducible exact ih1 _ _ _ _ _ _ _ _ _ _ _)
      | (with_reducible exact LeO.refl _)
      | (with_reducible exact LeO.none _)
      | (with_reducible refine LeO.ite ?_ ?_)
      | (with_reducible refine LeO.bind ?_ (fun _ => ?_))
      | exact ih0 _ _ _ _ _ _ _ _ _ _ _ _
      | exact ih1 _ _ _ _ _ _ _ _ _ _ _
      | exact LeO.none _
      | refine LeO.ite ?_ ?_
      | refine LeO.bind ?_ (fun _ => ?_)
def tricklelaw41_ExpiryDeadline.T1 : Bool × List (List Nat × List Nat) := (true, [([], []), ([0], [0]), ([], []), ([2], [2]), ([1, 3, 1], [1, 3]), ([4], [4]), ([5], [5]), ([5], [5]), ([6, 4, 0, 1, 2, 3, 4, 5, 6], [6]), ([7, 8, 0, 1, 2, 3, 4, 5, 6, 7, 8], [7])])
def tricklelaw41_ExpiryDeadline.B1 : List Nat := [0, 1, 0, 4, 15, 31, 63, 63, 127, 511]
theorem tricklelaw41_ExpiryDeadline.tab1 : rtab .any (opsOf Try.f5 1) = tricklelaw41_ExpiryDeadline.T1 := by kernel_rfl
theorem tricklelaw41_ExpiryDeadline.bits1 : waitsOk tricklelaw41_ExpiryDeadline.T1.2 tricklelaw41_ExpiryDeadline.B1 = true := by kernel_rfl
def tricklelaw41_ExpiryDeadline.T7 : Bool × List (List Nat × List Nat) := (true, [([], []), ([0], [0]), ([], []), ([2, 1], [2]), ([], []), ([4], [4]), ([], []), ([6], [6]), ([1, 3, 5, 7, 3], [1, 3, 5, 7]), ([], []), ([9], [9]), ([10], [10]), ([], []), ([12], [12]), ([11, 13], [11, 13]), ([], []), ([14, 15], [14, 15]), ([8, 16], [8, 16]), ([17, 8, 0, 1, 2, 3, 4, 5, 6, 7, 8, 9, 10, 11, 12, 13, 14, 15, 16, 17], [17])])
def tricklelaw41_ExpiryDeadline.B7 : List Nat := [0, 1, 0, 7, 0, 16, 0, 64, 255, 0, 512, 1536, 0, 4096, 15872, 0, 65024, 131071, 262143]
theorem tricklelaw41_ExpiryDeadline.tab7 : rtab .any (opsOf Try.f5 7) = tricklelaw41_ExpiryDeadline.T7 := by kernel_rfl
theorem tricklelaw41_ExpiryDeadline.bits7 : waitsOk tricklelaw41_ExpiryDeadline.T7.2 tricklelaw41_ExpiryDeadline.B7 = true := by kernel_rfl
set_option maxHeartbeats 8000000 in
set_option maxRecDepth 100000 in
theorem tricklelaw41_ExpiryDeadline.calls (k : Nat) (a0_0 : Int) (a0_1 : Int) (a0_2 : Int) (a0_3 : Int) (a1_0 : Int) (a1_1 : Int) (a1_2 : Int) (a2_0 : Int) (a2_1 : Int) (r : Bool) (w : World) (h : tricklelaw41_ExpiryDeadline.f k a0_0 a0_1 a0_2 a0_3 a1_0 a1_1 a1_2 a2_0 a2_1 = some r) :
    Calls Try.prog 5 #[.agg #[.int .i16 a0_0, .int .i64 a0_1, .int .i64 a0_2, .int .i64 a0_3], .agg #[.int .i64 a1_0, .int .i64 a1_1, .int .i64 a1_2], .agg #[.int .i64 a2_0, .int .i64 a2_1]] w fun e w' => e = .returned (.bool r) ∧ Below w.heap.size w w' := by
  have hu49 := Try.underlying49
  have hu50 := Try.underlying50
  have hu54 := Try.underlying54
  have hu28 := Try.underlying28
  have HB := Aside0.mk (Below.refl w.heap.size w)
  have H : ((tricklelaw41_own.f a0_0 a0_1 a0_2 a0_3).bind fun bt194 => ((expiry_Deadline.f bt194.1 bt194.2.1 bt194.2.2.1 bt194.2.2.2 a2_1).bind fun bt198 => ((trickleref41_Deadline.f a0_0 a0_1 a0_2 a0_3 a2_1).bind fun bt200 => ((tricklelaw41_examples.f).bind fun t202 => (if t202 = true then (if bt198.1 = bt200.1 then (tricklelaw41_ExpiryDeadline.j0 k bt198.1 bt198.2 (bt198.2 != bt200.2) a0_0 a0_1 a0_2 a0_3 a1_0 a1_1 a1_2 a2_0 a2_1) else (tricklelaw41_ExpiryDeadline.j0 k bt198.1 bt198.2 true a0_0 a0_1 a0_2 a0_3 a1_0 a1_1 a1_2 a2_0 a2_1)) else (tricklelaw41_ExpiryDeadline.j0 k bt198.1 bt198.2 true a0_0 a0_1 a0_2 a0_3 a1_0 a1_1 a1_2 a2_0 a2_1)))))) = some r := h
  clear h
  replace H := Option.bind_eq_some_iff.mp H
  obtain ⟨⟨t194, t195, t196, t197⟩, A40, H⟩ := H
  replace H : ((expiry_Deadline.f t194 t195 t196 t197 a2_1).bind fun bt198 => ((trickleref41_Deadline.f a0_0 a0_1 a0_2 a0_3 a2_1).bind fun bt200 => ((tricklelaw41_examples.f).bind fun t202 => (if t202 = true then (if bt198.1 = bt200.1 then (tricklelaw41_ExpiryDeadline.j0 k bt198.1 bt198.2 (bt198.2 != bt200.2) a0_0 a0_1 a0_2 a0_3 a1_0 a1_1 a1_2 a2_0 a2_1) else (tricklelaw41_ExpiryDeadline.j0 k bt198.1 bt198.2 true a0_0 a0_1 a0_2 a0_3 a1_0 a1_1 a1_2 a2_0 a2_1)) else (tricklelaw41_ExpiryDeadline.j0 k bt198.1 bt198.2 true a0_0 a0_1 a0_2 a0_3 a1_0 a1_1 a1_2 a2_0 a2_1))))) = some r := H
  have A4 := Aside0.mk A40
  clear A40
  replace H := Option.bind_eq_some_iff.mp H
  obtain ⟨⟨t198, t199⟩, A50, H⟩ := H
  replace H : ((trickleref41_Deadline.f a0_0 a0_1 a0_2 a0_3 a2_1).bind fun bt200 => ((tricklelaw41_examples.f).bind fun t202 => (if t202 = true then (if t198 = bt200.1 then (tricklelaw41_ExpiryDeadline.j0 k t198 t199 (t199 != bt200.2) a0_0 a0_1 a0_2 a0_3 a1_0 a1_1 a1_2 a2_0 a2_1) else (tricklelaw41_ExpiryDeadline.j0 k t198 t199 true a0_0 a0_1 a0_2 a0_3 a1_0 a1_1 a1_2 a2_0 a2_1)) else (tricklelaw41_ExpiryDeadline.j0 k t198 t199 true a0_0 a0_1 a0_2 a0_3 a1_0 a1_1 a1_2 a2_0 a2_1)))) = some r := H
  have A5 := Aside0.mk A50
  clear A50
  replace H := Option.bind_eq_some_iff.mp H
  obtain ⟨⟨t200, t201⟩, A60, H⟩ := H
  replace H : ((tricklelaw41_examples.f).bind fun t202 => (if t202 = true then (if t198 = t200 then (tricklelaw41_ExpiryDeadline.j0 k t198 t199 (t199 != t201) a0_0 a0_1 a0_2 a0_3 a1_0 a1_1 a1_2 a2_0 a2_1) else (tricklelaw41_ExpiryDeadline.j0 k t198 t199 true a0_0 a0_1 a0_2 a0_3 a1_0 a1_1 a1_2 a2_0 a2_1)) else (tricklelaw41_ExpiryDeadline.j0 k t198 t199 true a0_0 a0_1 a0_2 a0_3 a1_0 a1_1 a1_2 a2_0 a2_1))) = some r := H
  have A6 := Aside0.mk A60
  clear A60
  have HC7 := Aside0.mk H
  clear H
  go_enter Try.func5, Try.ntmps5
  try go_wp2_with (first | ((with_reducible refine gate_dst (N := 3) rfl ?_); refine box_event ?hg (N := 3) ?hd (cs := #[.int .i16 a0_0, .int .i64 a0_1, .int .i64 a0_2, .int .i64 a0_3]) (t := 49) ?hr ?_; (case hd => rfl); (case hg => rfl); (case hr => first | (go_simp; done) | (go_simp; rfl)); intro gb191 hg w8 hbox hb; have n0_ := Aside0.mk (below_step (by repeat (first | (with_reducible first | exact HB.out | apply below_alloc | apply pw_below_drewN | apply below_drew1) | exact HB.out)) hb); have n1_ := Aside0.mk (hbox); have n2_ := Aside0.mk ((by rw [hg]; exact (below_size (by repeat (first | (with_reducible first | exact HB.out | apply below_alloc | apply pw_below_drewN | apply below_drew1) | exact HB.out))) : w.heap.size ≤ gb191)); have n3_ := Aside0.mk ((by rw [hg]; exact (below_size (by repeat (first | (with_reducible first | exact HB.out | apply below_alloc | apply pw_below_drewN | apply below_drew1) | exact HB.out))) : w.heap.size ≤ gb191)); clear HB; have HB := n0_; have BK191 := n1_; have GW191 := n2_; have GE191 := n3_; clear n0_ n1_ n2_ n3_; clear hb hbox hg) | ((with_reducible refine gate_dst (N := 4) rfl ?_); refine box_event ?hg (N := 4) ?hd (cs := #[.int .i64 a1_0, .int .i64 a1_1, .int .i64 a1_2]) (t := 50) ?hr ?_; (case hd => rfl); (case hg => rfl); (case hr => first | (go_simp; done) | (go_simp; rfl)); intro gb192 hg w9 hbox hb; have n0_ := Aside0.mk (blk_below (g := gb191) (o := .cells #[.int .i16 a0_0, .int .i64 a0_1, .int .i64 a0_2, .int .i64 a0_3] 49 (0, 0)) (by (with_reducible repeat (first | refine blk_drewN ?_ _ | refine blk_drew ?_ | refine blk_alloc ?_ _)); exact BK191.out) hb); have n1_ := Aside0.mk (below_step (by repeat (first | (with_reducible first | exact HB.out | apply below_alloc | apply pw_below_drewN | apply below_drew1 | refine below_set ?_ GE191.out) | exact HB.out)) hb); have n2_ := Aside0.mk (hbox); have n3_ := Aside0.mk ((by rw [hg]; exact (below_size (by repeat (first | (with_reducible first | exact HB.out | apply below_alloc | apply pw_below_drewN | apply below_drew1 | refine below_set ?_ GE191.out) | exact HB.out))) : w.heap.size ≤ gb192)); have n4_ := Aside0.mk ((by rw [hg]; exact (below_size (by repeat (first | (with_reducible first | exact HB.out | apply below_alloc | apply pw_below_drewN | apply below_drew1 | refine below_set ?_ GE191.out) | exact HB.out))) : w.heap.size ≤ gb192)); have n5_ := Aside0.mk ((by rw [hg]; exact Nat.ne_of_lt (blk_lt (g := gb191) (o := .cells #[.int .i16 a0_0, .int .i64 a0_1, .int .i64 a0_2, .int .i64 a0_3] 49 (0, 0)) (by (with_reducible repeat (first | refine blk_drewN ?_ _ | refine blk_drew ?_ | refine blk_alloc ?_ _)); exact BK191.out)) : gb191 ≠ gb192)); have n6_ := Aside0.mk ((by rw [hg]; exact Nat.ne_of_gt (blk_lt (g := gb191) (o := .cells #[.int .i16 a0_0, .int .i64 a0_1, .int .i64 a0_2, .int .i64 a0_3] 49 (0, 0)) (by (with_reducible repeat (first | refine blk_drewN ?_ _ | refine blk_drew ?_ | refine blk_alloc ?_ _)); exact BK191.out)) : gb192 ≠ gb191)); clear BK191; clear HB; have BK191 := n0_; have HB := n1_; have BK192 := n2_; have GW192 := n3_; have GE192 := n4_; have NB191_192 := n5_; have NB192_191 := n6_; clear n0_ n1_ n2_ n3_ n4_ n5_ n6_; clear hb hbox hg) | ((with_reducible refine gate_dst (N := 5) rfl ?_); refine box_event ?hg (N := 5) ?hd (cs := #[.int .i64 a2_0, .int .i64 a2_1]) (t := 54) ?hr ?_; (case hd => rfl); (case hg => rfl); (case hr => first | (go_simp; done) | (go_simp; rfl)); intro gb193 hg w10 hbox hb; have n0_ := Aside0.mk (blk_below (g := gb191) (o := .cells #[.int .i16 a0_0, .int .i64 a0_1, .int .i64 a0_2, .int .i64 a0_3] 49 (0, 0)) (by (with_reducible repeat (first | refine blk_drewN ?_ _ | refine blk_drew ?_ | refine blk_alloc ?_ _)); exact BK191.out) hb); have n1_ := Aside0.mk (blk_below (g := gb192) (o := .cells #[.int .i64 a1_0, .int .i64 a1_1, .int .i64 a1_2] 50 (0, 0)) (by (with_reducible repeat (first | refine blk_drewN ?_ _ | refine blk_drew ?_ | refine blk_alloc ?_ _)); exact BK192.out) hb); have n2_ := Aside0.mk (below_step (by repeat (first | (with_reducible first | exact HB.out | apply below_alloc | apply pw_below_drewN | apply below_drew1 | refine below_set ?_ GE191.out | refine below_set ?_ GE192.out) | exact HB.out)) hb); have n3_ := Aside0.mk (hbox); have n4_ := Aside0.mk ((by rw [hg]; exact (below_size (by repeat (first | (with_reducible first | exact HB.out | apply below_alloc | apply pw_below_drewN | apply below_drew1 | refine below_set ?_ GE191.out | refine below_set ?_ GE192.out) | exact HB.out))) : w.heap.size ≤ gb193)); have n5_ := Aside0.mk ((by rw [hg]; exact (below_size (by repeat (first | (with_reducible first | exact HB.out | apply below_alloc | apply pw_below_drewN | apply below_drew1 | refine below_set ?_ GE191.out | refine below_set ?_ GE192.out) | exact HB.out))) : w.heap.size ≤ gb193)); have n6_ := Aside0.mk ((by rw [hg]; exact Nat.ne_of_lt (blk_lt (g := gb191) (o := .cells #[.int .i16 a0_0, .int .i64 a0_1, .int .i64 a0_2, .int .i64 a0_3] 49 (0, 0)) (by (with_reducible repeat (first | refine blk_drewN ?_ _ | refine blk_drew ?_ | refine blk_alloc ?_ _)); exact BK191.out)) : gb191 ≠ gb193)); have n7_ := Aside0.mk ((by rw [hg]; exact Nat.ne_of_gt (blk_lt (g := gb191) (o := .cells #[.int .i16 a0_0, .int .i64 a0_1, .int .i64 a0_2, .int .i64 a0_3] 49 (0, 0)) (by (with_reducible repeat (first | refine blk_drewN ?_ _ | refine blk_drew ?_ | refine blk_alloc ?_ _)); exact BK191.out)) : gb193 ≠ gb191)); have n8_ := Aside0.mk ((by rw [hg]; exact Nat.ne_of_lt (blk_lt (g := gb192) (o := .cells #[.int .i64 a1_0, .int .i64 a1_1, .int .i64 a1_2] 50 (0, 0)) (by (with_reducible repeat (first | refine blk_drewN ?_ _ | refine blk_drew ?_ | refine blk_alloc ?_ _)); exact BK192.out)) : gb192 ≠ gb193)); have n9_ := Aside0.mk ((by rw [hg]; exact Nat.ne_of_gt (blk_lt (g := gb192) (o := .cells #[.int .i64 a1_0, .int .i64 a1_1, .int .i64 a1_2] 50 (0, 0)) (by (with_reducible repeat (first | refine blk_drewN ?_ _ | refine blk_drew ?_ | refine blk_alloc ?_ _)); exact BK192.out)) : gb193 ≠ gb192)); clear BK191; clear BK192; clear HB; have BK191 := n0_; have BK192 := n1_; have HB := n2_; have BK193 := n3_; have GW193 := n4_; have GE193 := n5_; have NB191_193 := n6_; have NB193_191 := n7_; have NB192_193 := n8_; have NB193_192 := n9_; clear n0_ n1_ n2_ n3_ n4_ n5_ n6_ n7_ n8_ n9_; clear hb hbox hg))
  have n0_ := Aside0.mk (blk_drew BK191.out)
  have n1_ := Aside0.mk (blk_drew BK192.out)
  have n2_ := Aside0.mk (blk_drew BK193.out)
  have n3_ := Aside0.mk (below_drew1 HB.out)
  clear BK191
  clear BK192
  clear BK193
  clear HB
  have BK191 := n0_
  have BK192 := n1_
  have BK193 := n2_
  have HB := n3_
  clear n0_ n1_ n2_ n3_
  refine start_ (n := 10) (S := fun w' => w'.cell? ⟨gb191, 0, none⟩ = some (.int .i16 a0_0) ∧ w'.cell? ⟨gb191, 1, none⟩ = some (.int .i64 a0_1) ∧ w'.cell? ⟨gb191, 2, none⟩ = some (.int .i64 a0_2) ∧ w'.cell? ⟨gb191, 3, none⟩ = some (.int .i64 a0_3) ∧ w'.cell? ⟨gb193, 0, none⟩ = some (.int .i64 a2_0) ∧ w'.cell? ⟨gb193, 1, none⟩ = some (.int .i64 a2_1)) (ds := []) #[false, false, false, false, false, false, false, false, false, false] (by kernel_rfl) rfl rfl ⟨(blk_cell BK191.out 0).trans rfl, (blk_cell BK191.out 1).trans rfl, (blk_cell BK191.out 2).trans rfl, (blk_cell BK191.out 3).trans rfl, (blk_cell BK193.out 0).trans rfl, (blk_cell BK193.out 1).trans rfl⟩ (fun hHeld => ?_); refine with_tabW tricklelaw41_ExpiryDeadline.tab1 tricklelaw41_ExpiryDeadline.bits1 (fun HT_ HW_ => ?_)
  generalize w10.drew = w11 at BK191 BK192 BK193 HB hHeld ⊢
  refine pure_ (i := 2) (N := some 14) (v := ?_) (a' := ?_) #[false, false, true, false, false, false, false, false, false, false] rfl rfl (any_of HT_.out (by kernel_rfl)) (fun _ _ _ h => h) (Or.inl ⟨by rfl, ?_⟩) ?_ ?_
  rotate_left
  · intro w'
    go_simp
    with_reducible rfl
  rotate_left
  · simp only [Act.put, List.setIfInBounds_toArray, List.set_cons_zero, List.set_cons_succ, i64_w, i32_w]
    rfl
  refine take_ (i := 0) (N := some 12) (v := ?_) (a' := ?_) #[true, false, true, false, false, false, false, false, false, false] rfl rfl (take_ofW HT_.out HW_.out (by kernel_rfl)) (fun _ _ _ h => h) (Or.inl ⟨by rfl, ?_⟩) hHeld ?_ ?_
  rotate_left
  · rintro w' ⟨s0, s1, s2, s3, s4, s5⟩
    go_simp
    with_reducible rfl
  rotate_left
  · simp only [Act.put, List.setIfInBounds_toArray, List.set_cons_zero, List.set_cons_succ, i64_w, i32_w]
    rfl
  refine take_ (i := 3) (N := some 15) (v := ?_) (a' := ?_) #[true, false, true, true, false, false, false, false, false, false] rfl rfl (take_ofW HT_.out HW_.out (by kernel_rfl)) (fun _ _ _ h => h) (Or.inl ⟨by rfl, ?_⟩) hHeld ?_ ?_
  rotate_left
  · rintro w' ⟨s0, s1, s2, s3, s4, s5⟩
    go_simp
    with_reducible rfl
  rotate_left
  · simp only [Act.put, List.setIfInBounds_toArray, List.set_cons_zero, List.set_cons_succ, i64_w, i32_w]
    rfl
  refine one_ (i := 1) (N := some 13) #[true, true, true, true, false, false, false, false, false, false] rfl rfl (one_of HT_.out (by kernel_rfl)) (by decide) (fun K hK => ?_)
  refine goes_ Try.func19 (by kernel_rfl) rfl #[.agg #[.int .i16 a0_0, .int .i64 a0_1, .int .i64 a0_2, .int .i64 a0_3]] (by rfl) rfl rfl (by (try simp only [List.map_toArray, List.map_cons, List.map_nil]); first | done | rfl | (simp only [List.length_drop, List.length_take]; rfl)) ?_
  with_reducible refine (tricklelaw41_own.calls a0_0 a0_1 a0_2 a0_3 t194 t195 t196 t197 _ A4.out).mono ?_
  rintro e w12 ⟨rfl, hb⟩
  refine ⟨_, rfl, ?_⟩
  have n0_ := Aside0.mk (blk_below (g := gb191) (o := .cells #[.int .i16 a0_0, .int .i64 a0_1, .int .i64 a0_2, .int .i64 a0_3] 49 (0, 0)) (by (with_reducible repeat (first | refine blk_drewN ?_ _ | refine blk_drew ?_ | refine blk_alloc ?_ _)); exact BK191.out) hb)
  have n1_ := Aside0.mk (blk_below (g := gb192) (o := .cells #[.int .i64 a1_0, .int .i64 a1_1, .int .i64 a1_2] 50 (0, 0)) (by (with_reducible repeat (first | refine blk_drewN ?_ _ | refine blk_drew ?_ | refine blk_alloc ?_ _)); exact BK192.out) hb)
  have n2_ := Aside0.mk (blk_below (g := gb193) (o := .cells #[.int .i64 a2_0, .int .i64 a2_1] 54 (0, 0)) (by (with_reducible repeat (first | refine blk_drewN ?_ _ | refine blk_drew ?_ | refine blk_alloc ?_ _)); exact BK193.out) hb)
  have n3_ := Aside0.mk (below_step (by repeat (first | (with_reducible first | exact HB.out | apply below_alloc | apply pw_below_drewN | apply below_drew1 | refine below_set ?_ GE191.out | refine below_set ?_ GE192.out | refine below_set ?_ GE193.out) | exact HB.out)) hb)
  clear BK191
  clear BK192
  clear BK193
  clear HB
  have BK191 := n0_
  have BK192 := n1_
  have BK193 := n2_
  have HB := n3_
  clear n0_ n1_ n2_ n3_
  (try clear hb)
  (try clear hb2)
  (try clear hk)
  (try clear hi)
  refine hK.out _ _ ⟨(blk_cell BK191.out 0).trans rfl, (blk_cell BK191.out 1).trans rfl, (blk_cell BK191.out 2).trans rfl, (blk_cell BK191.out 3).trans rfl, (blk_cell BK193.out 0).trans rfl, (blk_cell BK193.out 1).trans rfl⟩ (fun hHeld => ?_)
  clear hK K
  refine norm_ (a' := ?_) ?_ ?_
  rotate_left
  · show Act.put _ (some 13) _ = _
    simp only [Act.put, List.setIfInBounds_toArray, List.set_cons_zero, List.set_cons_succ, i64_w, i32_w]
    rfl
  refine one_ (i := 4) (N := some 16) #[true, true, true, true, true, false, false, false, false, false] rfl rfl (one_of HT_.out (by kernel_rfl)) (by decide) (fun K hK => ?_)
  refine goes_ Try.func23 (by kernel_rfl) rfl #[.agg #[.int .i16 t194, .int .i64 t195, .int .i64 t196, .int .i64 t197], .int .i64 a2_1] (by rfl) rfl rfl (by (try simp only [List.map_toArray, List.map_cons, List.map_nil]); first | done | rfl | (simp only [List.length_drop, List.length_take]; rfl)) ?_
  with_reducible refine (expiry_Deadline.calls t194 t195 t196 t197 a2_1 t198 t199 _ A5.out).mono ?_
  rintro e w13 ⟨rfl, hb⟩
  refine ⟨_, rfl, ?_⟩
  have n0_ := Aside0.mk (blk_below (g := gb191) (o := .cells #[.int .i16 a0_0, .int .i64 a0_1, .int .i64 a0_2, .int .i64 a0_3] 49 (0, 0)) (by (with_reducible repeat (first | refine blk_drewN ?_ _ | refine blk_drew ?_ | refine blk_alloc ?_ _)); exact BK191.out) hb)
  have n1_ := Aside0.mk (blk_below (g := gb192) (o := .cells #[.int .i64 a1_0, .int .i64 a1_1, .int .i64 a1_2] 50 (0, 0)) (by (with_reducible repeat (first | refine blk_drewN ?_ _ | refine blk_drew ?_ | refine blk_alloc ?_ _)); exact BK192.out) hb)
  have n2_ := Aside0.mk (blk_below (g := gb193) (o := .cells #[.int .i64 a2_0, .int .i64 a2_1] 54 (0, 0)) (by (with_reducible repeat (first | refine blk_drewN ?_ _ | refine blk_drew ?_ | refine blk_alloc ?_ _)); exact BK193.out) hb)
  have n3_ := Aside0.mk (below_step (by repeat (first | (with_reducible first | exact HB.out | apply below_alloc | apply pw_below_drewN | apply below_drew1 | refine below_set ?_ GE191.out | refine below_set ?_ GE192.out | refine below_set ?_ GE193.out) | exact HB.out)) hb)
  clear BK191
  clear BK192
  clear BK193
  clear HB
  have BK191 := n0_
  have BK192 := n1_
  have BK193 := n2_
  have HB := n3_
  clear n0_ n1_ n2_ n3_
  (try clear hb)
  (try clear hb2)
  (try clear hk)
  (try clear hi)
  refine hK.out _ _ ⟨(blk_cell BK191.out 0).trans rfl, (blk_cell BK191.out 1).trans rfl, (blk_cell BK191.out 2).trans rfl, (blk_cell BK191.out 3).trans rfl, (blk_cell BK193.out 0).trans rfl, (blk_cell BK193.out 1).trans rfl⟩ (fun hHeld => ?_)
  clear hK K
  refine norm_ (a' := ?_) ?_ ?_
  rotate_left
  · show Act.put _ (some 16) _ = _
    simp only [Act.put, List.setIfInBounds_toArray, List.set_cons_zero, List.set_cons_succ, i64_w, i32_w]
    rfl
  refine pure_ (i := 5) (N := some 11) (v := ?_) (a' := ?_) #[true, true, true, true, true, true, false, false, false, false] rfl rfl (any_of HT_.out (by kernel_rfl)) (fun _ _ _ h => h) (Or.inl ⟨by rfl, ?_⟩) ?_ ?_
  rotate_left
  · intro w'
    go_simp
    with_reducible rfl
  rotate_left
  · simp only [Act.put, List.setIfInBounds_toArray, List.set_cons_zero, List.set_cons_succ, i64_w, i32_w]
    rfl
  refine pure_ (i := 6) (N := some 17) (v := ?_) (a' := ?_) #[true, true, true, true, true, true, true, false, false, false] rfl rfl (any_of HT_.out (by kernel_rfl)) (fun _ _ _ h => h) (Or.inl ⟨by rfl, ?_⟩) ?_ ?_
  rotate_left
  · intro w'
    go_simp
    with_reducible rfl
  rotate_left
  · simp only [Act.put, List.setIfInBounds_toArray, List.set_cons_zero, List.set_cons_succ, i64_w, i32_w]
    rfl
  refine pure_ (i := 7) (N := some 18) (v := ?_) (a' := ?_) #[true, true, true, true, true, true, true, true, false, false] rfl rfl (any_of HT_.out (by kernel_rfl)) (fun _ _ _ h => h) (Or.inl ⟨by rfl, ?_⟩) ?_ ?_
  rotate_left
  · intro w'
    go_simp
    with_reducible rfl
  rotate_left
  · simp only [Act.put, List.setIfInBounds_toArray, List.set_cons_zero, List.set_cons_succ, i64_w, i32_w]
    rfl
  refine pure_ (i := 8) (N := some 7) (v := ?_) (a' := ?_) #[true, true, true, true, true, true, true, true, true, false] rfl rfl (any_of HT_.out (by kernel_rfl)) (fun _ _ _ h => h) (Or.inl ⟨by rfl, ?_⟩) ?_ ?_
  rotate_left
  · intro w'
    go_simp
    with_reducible rfl
  rotate_left
  · simp only [Act.put, List.setIfInBounds_toArray, List.set_cons_zero, List.set_cons_succ, i64_w, i32_w]
    rfl
  refine pure_ (i := 9) (N := some 8) (v := ?_) (a' := ?_) #[true, true, true, true, true, true, true, true, true, true] rfl rfl (any_of HT_.out (by kernel_rfl)) (fun _ _ _ h => h) (Or.inl ⟨by rfl, ?_⟩) ?_ ?_
  rotate_left
  · intro w'
    go_simp
    with_reducible rfl
  rotate_left
  · simp only [Act.put, List.setIfInBounds_toArray, List.set_cons_zero, List.set_cons_succ, i64_w, i32_w]
    rfl
  refine done_ (done_of HT_.out (by kernel_rfl)) ?_
  have hnb14 := NB191_192.out
  have hnc14 := NB192_191.out
  have hnb15 := NB191_193.out
  have hnc15 := NB193_191.out
  have hcz16_0 : w13.cell? ⟨gb191, 0, none⟩ = some (.int .i16 a0_0) := (blk_cell BK191.out 0).trans rfl
  have hcz16_1 : w13.cell? ⟨gb191, 1, none⟩ = some (.int .i64 a0_1) := (blk_cell BK191.out 1).trans rfl
  have hcz16_2 : w13.cell? ⟨gb191, 2, none⟩ = some (.int .i64 a0_2) := (blk_cell BK191.out 2).trans rfl
  have hcz16_3 : w13.cell? ⟨gb191, 3, none⟩ = some (.int .i64 a0_3) := (blk_cell BK191.out 3).trans rfl
  have hfz16_0 := blk_frozen BK191.out 0
  have hfz16_1 := blk_frozen BK191.out 1
  have hfz16_2 := blk_frozen BK191.out 2
  have hfz16_3 := blk_frozen BK191.out 3
  have hnb17 := NB193_192.out
  have hnc17 := NB192_193.out
  have hcz18_0 : w13.cell? ⟨gb193, 0, none⟩ = some (.int .i64 a2_0) := (blk_cell BK193.out 0).trans rfl
  have hcz18_1 : w13.cell? ⟨gb193, 1, none⟩ = some (.int .i64 a2_1) := (blk_cell BK193.out 1).trans rfl
  have hfz18_0 := blk_frozen BK193.out 0
  have hfz18_1 := blk_frozen BK193.out 1
  go_upto_region 3 with (first | ((with_reducible refine gate_callee (f := 24) rfl ?_); refine goesL_ (some 23) rfl rfl Try.func24 (by kernel_rfl) rfl #[.agg #[.int .i16 a0_0, .int .i64 a0_1, .int .i64 a0_2, .int .i64 a0_3], .int .i64 a2_1] rfl (by (try simp only [List.map_toArray, List.map_cons, List.map_nil]); first | done | rfl | (simp only [List.length_drop, List.length_take]; rfl)) ?_; (with_reducible refine (trickleref41_Deadline.calls a0_0 a0_1 a0_2 a0_3 a2_1 t200 t201 _ A6.out).mono ?_); rintro e w19 ⟨rfl, hb⟩; refine ⟨_, rfl, ?_⟩; have n0_ := Aside0.mk (blk_below (g := gb191) (o := .cells #[.int .i16 a0_0, .int .i64 a0_1, .int .i64 a0_2, .int .i64 a0_3] 49 (0, 0)) (by (with_reducible repeat (first | refine blk_drewN ?_ _ | refine blk_drew ?_ | refine blk_alloc ?_ _)); exact BK191.out) hb); have n1_ := Aside0.mk (blk_below (g := gb192) (o := .cells #[.int .i64 a1_0, .int .i64 a1_1, .int .i64 a1_2] 50 (0, 0)) (by (with_reducible repeat (first | refine blk_drewN ?_ _ | refine blk_drew ?_ | refine blk_alloc ?_ _)); exact BK192.out) hb); have n2_ := Aside0.mk (blk_below (g := gb193) (o := .cells #[.int .i64 a2_0, .int .i64 a2_1] 54 (0, 0)) (by (with_reducible repeat (first | refine blk_drewN ?_ _ | refine blk_drew ?_ | refine blk_alloc ?_ _)); exact BK193.out) hb); have n3_ := Aside0.mk (below_step (by repeat (first | (with_reducible first | exact HB.out | apply below_alloc | apply pw_below_drewN | apply below_drew1 | refine below_set ?_ GE191.out | refine below_set ?_ GE192.out | refine below_set ?_ GE193.out) | exact HB.out)) hb); clear BK191; clear BK192; clear BK193; clear HB; have BK191 := n0_; have BK192 := n1_; have BK193 := n2_; have HB := n3_; clear n0_ n1_ n2_ n3_; (try clear hb); (try clear hb2); (try clear hk); (try clear hi)))
  (try simp only [Act.put, List.setIfInBounds_toArray, List.set_cons_zero, List.set_cons_succ])
  go_cut [37] (fun v37 wc => ∃ (kq : Nat) (x37_6 : Bool), v37 = .bool x37_6 ∧ Aside0 (tricklelaw41_ExpiryDeadline.j0 kq t198 t199 x37_6 a0_0 a0_1 a0_2 a0_3 a1_0 a1_1 a1_2 a2_0 a2_1 = some r) ∧ Aside0 (kq ≤ k) ∧ Aside0 (wc.heap[gb191]? = some (.cells #[.int .i16 a0_0, .int .i64 a0_1, .int .i64 a0_2, .int .i64 a0_3] 49 (0, 0))) ∧ Aside0 (wc.heap[gb192]? = some (.cells #[.int .i64 a1_0, .int .i64 a1_1, .int .i64 a1_2] 50 (0, 0))) ∧ Aside0 (wc.heap[gb193]? = some (.cells #[.int .i64 a2_0, .int .i64 a2_1] 54 (0, 0))) ∧ Aside0 (Below w.heap.size w wc))
  case first =>
    have H := HC7.out
    clear HC7
    replace H := Option.bind_eq_some_iff.mp H
    obtain ⟨t202, A200, H⟩ := H
    replace H : (if t202 = true then (if t198 = t200 then (tricklelaw41_ExpiryDeadline.j0 k t198 t199 (t199 != t201) a0_0 a0_1 a0_2 a0_3 a1_0 a1_1 a1_2 a2_0 a2_1) else (tricklelaw41_ExpiryDeadline.j0 k t198 t199 true a0_0 a0_1 a0_2 a0_3 a1_0 a1_1 a1_2 a2_0 a2_1)) else (tricklelaw41_ExpiryDeadline.j0 k t198 t199 true a0_0 a0_1 a0_2 a0_3 a1_0 a1_1 a1_2 a2_0 a2_1)) = some r := H
    have A20 := Aside0.mk A200
    clear A200
    by_cases c21 : t202 = true
    · subst c21
      have H1 : (if t198 = t200 then (tricklelaw41_ExpiryDeadline.j0 k t198 t199 (t199 != t201) a0_0 a0_1 a0_2 a0_3 a1_0 a1_1 a1_2 a2_0 a2_1) else (tricklelaw41_ExpiryDeadline.j0 k t198 t199 true a0_0 a0_1 a0_2 a0_3 a1_0 a1_1 a1_2 a2_0 a2_1)) = some r := by rw [if_pos rfl] at H; exact H
      clear H
      have H := H1
      clear H1
      by_cases c22 : t198 = t200
      · rw [if_pos c22] at H
        have c22b0 : (t198 == t200) = true := beq_iff_eq.mpr c22
        have c22b1 : (t198 != t200) = false := bne_eq_false_iff_eq.mpr c22
        clear c22
        (first | rw [c22b0] | (simp only [i64_w, i32_w]; rw [c22b0]) | skip)
        have H' := Aside0.mk H
        clear H
        go_wp2_with (first | ((with_reducible refine gate_callee (f := 9) rfl ?_); refine goesL_ (some 26) rfl rfl Try.func9 (by kernel_rfl) rfl #[] rfl (by (try simp only [List.map_toArray, List.map_cons, List.map_nil]); first | done | rfl | (simp only [List.length_drop, List.length_take]; rfl)) ?_; (with_reducible refine (tricklelaw41_examples.calls  true _ A20.out).mono ?_); rintro e w23 ⟨rfl, hb⟩; refine ⟨_, rfl, ?_⟩; have n0_ := Aside0.mk (blk_below (g := gb191) (o := .cells #[.int .i16 a0_0, .int .i64 a0_1, .int .i64 a0_2, .int .i64 a0_3] 49 (0, 0)) (by (with_reducible repeat (first | refine blk_drewN ?_ _ | refine blk_drew ?_ | refine blk_alloc ?_ _)); exact BK191.out) hb); have n1_ := Aside0.mk (blk_below (g := gb192) (o := .cells #[.int .i64 a1_0, .int .i64 a1_1, .int .i64 a1_2] 50 (0, 0)) (by (with_reducible repeat (first | refine blk_drewN ?_ _ | refine blk_drew ?_ | refine blk_alloc ?_ _)); exact BK192.out) hb); have n2_ := Aside0.mk (blk_below (g := gb193) (o := .cells #[.int .i64 a2_0, .int .i64 a2_1] 54 (0, 0)) (by (with_reducible repeat (first | refine blk_drewN ?_ _ | refine blk_drew ?_ | refine blk_alloc ?_ _)); exact BK193.out) hb); have n3_ := Aside0.mk (below_step (by repeat (first | (with_reducible first | exact HB.out | apply below_alloc | apply pw_below_drewN | apply below_drew1 | refine below_set ?_ GE191.out | refine below_set ?_ GE192.out | refine below_set ?_ GE193.out) | exact HB.out)) hb); clear BK191; clear BK192; clear BK193; clear HB; have BK191 := n0_; have BK192 := n1_; have BK193 := n2_; have HB := n3_; clear n0_ n1_ n2_ n3_; (try clear hb); (try clear hb2); (try clear hk); (try clear hi)))
        go_meet
        case rel => exact ⟨_, ((t199 != t201)), (by first | rfl | (simp; done) | (simp [*]; done)), H', ⟨by first | omega | exact Nat.le_refl _⟩, ⟨by (with_reducible repeat (first | refine blk_drewN ?_ _ | refine blk_drew ?_ | refine blk_alloc ?_ _)); exact BK191.out⟩, ⟨by (with_reducible repeat (first | refine blk_drewN ?_ _ | refine blk_drew ?_ | refine blk_alloc ?_ _)); exact BK192.out⟩, ⟨by (with_reducible repeat (first | refine blk_drewN ?_ _ | refine blk_drew ?_ | refine blk_alloc ?_ _)); exact BK193.out⟩, ⟨by repeat (first | (with_reducible first | exact HB.out | apply below_alloc | apply pw_below_drewN | apply below_drew1 | refine below_set ?_ GE191.out | refine below_set ?_ GE192.out | refine below_set ?_ GE193.out) | exact HB.out)⟩⟩
      · rw [if_neg c22] at H
        have c22b0 : (t198 == t200) = false := beq_eq_false_iff_ne.mpr c22
        have c22b1 : (t198 != t200) = true := bne_iff_ne.mpr c22
        (first | rw [c22b0] | (simp only [i64_w, i32_w]; rw [c22b0]) | skip)
        have H' := Aside0.mk H
        clear H
        go_wp2_with (first | ((with_reducible refine gate_callee (f := 9) rfl ?_); refine goesL_ (some 26) rfl rfl Try.func9 (by kernel_rfl) rfl #[] rfl (by (try simp only [List.map_toArray, List.map_cons, List.map_nil]); first | done | rfl | (simp only [List.length_drop, List.length_take]; rfl)) ?_; (with_reducible refine (tricklelaw41_examples.calls  true _ A20.out).mono ?_); rintro e w24 ⟨rfl, hb⟩; refine ⟨_, rfl, ?_⟩; have n0_ := Aside0.mk (blk_below (g := gb191) (o := .cells #[.int .i16 a0_0, .int .i64 a0_1, .int .i64 a0_2, .int .i64 a0_3] 49 (0, 0)) (by (with_reducible repeat (first | refine blk_drewN ?_ _ | refine blk_drew ?_ | refine blk_alloc ?_ _)); exact BK191.out) hb); have n1_ := Aside0.mk (blk_below (g := gb192) (o := .cells #[.int .i64 a1_0, .int .i64 a1_1, .int .i64 a1_2] 50 (0, 0)) (by (with_reducible repeat (first | refine blk_drewN ?_ _ | refine blk_drew ?_ | refine blk_alloc ?_ _)); exact BK192.out) hb); have n2_ := Aside0.mk (blk_below (g := gb193) (o := .cells #[.int .i64 a2_0, .int .i64 a2_1] 54 (0, 0)) (by (with_reducible repeat (first | refine blk_drewN ?_ _ | refine blk_drew ?_ | refine blk_alloc ?_ _)); exact BK193.out) hb); have n3_ := Aside0.mk (below_step (by repeat (first | (with_reducible first | exact HB.out | apply below_alloc | apply pw_below_drewN | apply below_drew1 | refine below_set ?_ GE191.out | refine below_set ?_ GE192.out | refine below_set ?_ GE193.out) | exact HB.out)) hb); clear BK191; clear BK192; clear BK193; clear HB; have BK191 := n0_; have BK192 := n1_; have BK193 := n2_; have HB := n3_; clear n0_ n1_ n2_ n3_; (try clear hb); (try clear hb2); (try clear hk); (try clear hi)))
        go_meet
        case rel => exact ⟨_, (true), (by first | rfl | (simp; done) | (simp [*]; done)), H', ⟨by first | omega | exact Nat.le_refl _⟩, ⟨by (with_reducible repeat (first | refine blk_drewN ?_ _ | refine blk_drew ?_ | refine blk_alloc ?_ _)); exact BK191.out⟩, ⟨by (with_reducible repeat (first | refine blk_drewN ?_ _ | refine blk_drew ?_ | refine blk_alloc ?_ _)); exact BK192.out⟩, ⟨by (with_reducible repeat (first | refine blk_drewN ?_ _ | refine blk_drew ?_ | refine blk_alloc ?_ _)); exact BK193.out⟩, ⟨by repeat (first | (with_reducible first | exact HB.out | apply below_alloc | apply pw_below_drewN | apply below_drew1 | refine below_set ?_ GE191.out | refine below_set ?_ GE192.out | refine below_set ?_ GE193.out) | exact HB.out)⟩⟩
    · replace c21 := Bool.eq_false_iff.mpr c21
      subst c21
      have H1 : (tricklelaw41_ExpiryDeadline.j0 k t198 t199 true a0_0 a0_1 a0_2 a0_3 a1_0 a1_1 a1_2 a2_0 a2_1) = some r := by rw [if_neg (show ¬ (false = true) by decide)] at H; exact H
      clear H
      have H := H1
      clear H1
      have H' := Aside0.mk H
      clear H
      go_wp2_with (first | ((with_reducible refine gate_callee (f := 9) rfl ?_); refine goesL_ (some 26) rfl rfl Try.func9 (by kernel_rfl) rfl #[] rfl (by (try simp only [List.map_toArray, List.map_cons, List.map_nil]); first | done | rfl | (simp only [List.length_drop, List.length_take]; rfl)) ?_; (with_reducible refine (tricklelaw41_examples.calls  false _ A20.out).mono ?_); rintro e w25 ⟨rfl, hb⟩; refine ⟨_, rfl, ?_⟩; have n0_ := Aside0.mk (blk_below (g := gb191) (o := .cells #[.int .i16 a0_0, .int .i64 a0_1, .int .i64 a0_2, .int .i64 a0_3] 49 (0, 0)) (by (with_reducible repeat (first | refine blk_drewN ?_ _ | refine blk_drew ?_ | refine blk_alloc ?_ _)); exact BK191.out) hb); have n1_ := Aside0.mk (blk_below (g := gb192) (o := .cells #[.int .i64 a1_0, .int .i64 a1_1, .int .i64 a1_2] 50 (0, 0)) (by (with_reducible repeat (first | refine blk_drewN ?_ _ | refine blk_drew ?_ | refine blk_alloc ?_ _)); exact BK192.out) hb); have n2_ := Aside0.mk (blk_below (g := gb193) (o := .cells #[.int .i64 a2_0, .int .i64 a2_1] 54 (0, 0)) (by (with_reducible repeat (first | refine blk_drewN ?_ _ | refine blk_drew ?_ | refine blk_alloc ?_ _)); exact BK193.out) hb); have n3_ := Aside0.mk (below_step (by repeat (first | (with_reducible first | exact HB.out | apply below_alloc | apply pw_below_drewN | apply below_drew1 | refine below_set ?_ GE191.out | refine below_set ?_ GE192.out | refine below_set ?_ GE193.out) | exact HB.out)) hb); clear BK191; clear BK192; clear BK193; clear HB; have BK191 := n0_; have BK192 := n1_; have BK193 := n2_; have HB := n3_; clear n0_ n1_ n2_ n3_; (try clear hb); (try clear hb2); (try clear hk); (try clear hi)))
      go_meet
      case rel => exact ⟨_, (true), (by first | rfl | (simp; done) | (simp [*]; done)), H', ⟨by first | omega | exact Nat.le_refl _⟩, ⟨by (with_reducible repeat (first | refine blk_drewN ?_ _ | refine blk_drew ?_ | refine blk_alloc ?_ _)); exact BK191.out⟩, ⟨by (with_reducible repeat (first | refine blk_drewN ?_ _ | refine blk_drew ?_ | refine blk_alloc ?_ _)); exact BK192.out⟩, ⟨by (with_reducible repeat (first | refine blk_drewN ?_ _ | refine blk_drew ?_ | refine blk_alloc ?_ _)); exact BK193.out⟩, ⟨by repeat (first | (with_reducible first | exact HB.out | apply below_alloc | apply pw_below_drewN | apply below_drew1 | refine below_set ?_ GE191.out | refine below_set ?_ GE192.out | refine below_set ?_ GE193.out) | exact HB.out)⟩⟩
  case rest =>
    clear HC7
    try clear c1
    try clear c2
    try clear p2
    try clear c5
    try clear c9
    try clear c14
    try clear c15
    try clear c17
    try clear c19
    try clear c21
    try clear c22
    try clear c22b0
    try clear c22b1
    try clear c23
    try clear c24
    try clear hcz16_0
    try clear hcz16_1
    try clear hcz16_2
    try clear hcz16_3
    try clear hcz18_0
    try clear hcz18_1
    try clear hfz16_0
    try clear hfz16_1
    try clear hfz16_2
    try clear hfz16_3
    try clear hfz18_0
    try clear hfz18_1
    obtain ⟨kq, x37_6, rfl, HA, HJ6, BK191, BK192, BK193, HB⟩ := hcut
    cases kq with
    | zero => exact absurd HA.out (by simp [tricklelaw41_ExpiryDeadline.j0])
    | succ kj6 =>
      have H := HA.out
      clear HA
      simp only [tricklelaw41_ExpiryDeadline.j0] at H
      by_cases c26 : x37_6 = true
      · subst c26
        have H1 : (some false) = some r := by rw [if_pos rfl] at H; exact H
        clear H
        have H := H1
        clear H1
        obtain rfl := Option.some.inj H
        go_wp2
        go_ret
        exact ⟨by first | rfl | (simp [errW_none, errW_some] <;> rfl) | (simp [*, errW_none, errW_some] <;> rfl), by repeat (first | (with_reducible first | exact HB.out | apply below_alloc | apply pw_below_drewN | apply below_drew1 | refine below_set ?_ GE191.out | refine below_set ?_ GE192.out | refine below_set ?_ GE193.out) | exact HB.out)⟩
      · replace c26 := Bool.eq_false_iff.mpr c26
        subst c26
        have H1 : (if t199 = true then (if t198 = 1099511627776 then (tricklelaw41_ExpiryDeadline.j1 kj6 t198 true a0_0 a0_1 a0_2 a0_3 a1_0 a1_1 a1_2 a2_0 a2_1) else (if a2_0 < 0 then (tricklelaw41_ExpiryDeadline.j1 kj6 t198 true a0_0 a0_1 a0_2 a0_3 a1_0 a1_1 a1_2 a2_0 a2_1) else (if a2_0 > 1099511627776 then (tricklelaw41_ExpiryDeadline.j1 kj6 t198 true a0_0 a0_1 a0_2 a0_3 a1_0 a1_1 a1_2 a2_0 a2_1) else ((trickleref41_Valid.f 0 a1_0 a1_1 a1_2).bind fun t203 => (if t203 = true then (if (Int.tmod a1_2 256) = (Int.tmod a0_3 256) then (tricklelaw41_ExpiryDeadline.j1 kj6 t198 (decide (a1_1 < a0_2)) a0_0 a0_1 a0_2 a0_3 a1_0 a1_1 a1_2 a2_0 a2_1) else (tricklelaw41_ExpiryDeadline.j1 kj6 t198 true a0_0 a0_1 a0_2 a0_3 a1_0 a1_1 a1_2 a2_0 a2_1)) else (tricklelaw41_ExpiryDeadline.j1 kj6 t198 true a0_0 a0_1 a0_2 a0_3 a1_0 a1_1 a1_2 a2_0 a2_1)))))) else (tricklelaw41_ExpiryDeadline.j1 kj6 t198 true a0_0 a0_1 a0_2 a0_3 a1_0 a1_1 a1_2 a2_0 a2_1)) = some r := by rw [if_neg (show ¬ (false = true) by decide)] at H; exact H
        clear H
        have H := H1
        clear H1
        have HC27 := Aside0.mk H
        clear H
        go_upto_region 5 with (fail)
        go_cut [80] (fun v80 wc => ∃ (kq : Nat) (x80_26 : Bool), v80 = .bool x80_26 ∧ Aside0 (tricklelaw41_ExpiryDeadline.j1 kq t198 x80_26 a0_0 a0_1 a0_2 a0_3 a1_0 a1_1 a1_2 a2_0 a2_1 = some r) ∧ Aside0 (kq ≤ kj6) ∧ Aside0 (wc.heap[gb191]? = some (.cells #[.int .i16 a0_0, .int .i64 a0_1, .int .i64 a0_2, .int .i64 a0_3] 49 (0, 0))) ∧ Aside0 (wc.heap[gb192]? = some (.cells #[.int .i64 a1_0, .int .i64 a1_1, .int .i64 a1_2] 50 (0, 0))) ∧ Aside0 (wc.heap[gb193]? = some (.cells #[.int .i64 a2_0, .int .i64 a2_1] 54 (0, 0))) ∧ Aside0 (Below w.heap.size w wc))
        case first =>
          have H := HC27.out
          clear HC27
          by_cases c28 : t199 = true
          · subst c28
            have H1 : (if t198 = 1099511627776 then (tricklelaw41_ExpiryDeadline.j1 kj6 t198 true a0_0 a0_1 a0_2 a0_3 a1_0 a1_1 a1_2 a2_0 a2_1) else (if a2_0 < 0 then (tricklelaw41_ExpiryDeadline.j1 kj6 t198 true a0_0 a0_1 a0_2 a0_3 a1_0 a1_1 a1_2 a2_0 a2_1) else (if a2_0 > 1099511627776 then (tricklelaw41_ExpiryDeadline.j1 kj6 t198 true a0_0 a0_1 a0_2 a0_3 a1_0 a1_1 a1_2 a2_0 a2_1) else ((trickleref41_Valid.f 0 a1_0 a1_1 a1_2).bind fun t203 => (if t203 = true then (if (Int.tmod a1_2 256) = (Int.tmod a0_3 256) then (tricklelaw41_ExpiryDeadline.j1 kj6 t198 (decide (a1_1 < a0_2)) a0_0 a0_1 a0_2 a0_3 a1_0 a1_1 a1_2 a2_0 a2_1) else (tricklelaw41_ExpiryDeadline.j1 kj6 t198 true a0_0 a0_1 a0_2 a0_3 a1_0 a1_1 a1_2 a2_0 a2_1)) else (tricklelaw41_ExpiryDeadline.j1 kj6 t198 true a0_0 a0_1 a0_2 a0_3 a1_0 a1_1 a1_2 a2_0 a2_1)))))) = some r := by rw [if_pos rfl] at H; exact H
            clear H
            have H := H1
            clear H1
            by_cases c29 : t198 = 1099511627776
            · rw [if_pos c29] at H
              have c29b0 : (t198 == 1099511627776) = true := beq_iff_eq.mpr c29
              have c29b1 : (t198 != 1099511627776) = false := bne_eq_false_iff_eq.mpr c29
              clear c29
              (first | rw [c29b0] | (simp only [i64_w, i32_w]; rw [c29b0]) | skip)
              have H' := Aside0.mk H
              clear H
              go_wp2
              go_meet
              case rel => exact ⟨_, (true), (by first | rfl | (simp; done) | (simp [*]; done)), H', ⟨by have := HJ6.out; first | omega | exact Nat.le_refl _⟩, ⟨by (with_reducible repeat (first | refine blk_drewN ?_ _ | refine blk_drew ?_ | refine blk_alloc ?_ _)); exact BK191.out⟩, ⟨by (with_reducible repeat (first | refine blk_drewN ?_ _ | refine blk_drew ?_ | refine blk_alloc ?_ _)); exact BK192.out⟩, ⟨by (with_reducible repeat (first | refine blk_drewN ?_ _ | refine blk_drew ?_ | refine blk_alloc ?_ _)); exact BK193.out⟩, ⟨by repeat (first | (with_reducible first | exact HB.out | apply below_alloc | apply pw_below_drewN | apply below_drew1 | refine below_set ?_ GE191.out | refine below_set ?_ GE192.out | refine below_set ?_ GE193.out) | exact HB.out)⟩⟩
            · rw [if_neg c29] at H
              have c29b0 : (t198 == 1099511627776) = false := beq_eq_false_iff_ne.mpr c29
              have c29b1 : (t198 != 1099511627776) = true := bne_iff_ne.mpr c29
              (first | rw [c29b0] | (simp only [i64_w, i32_w]; rw [c29b0]) | skip)
              by_cases c30 : a2_0 < 0
              · rw [if_pos c30] at H
                have c30b0 : decide (a2_0 < 0) = true := decide_eq_true c30
                clear c30
                have H' := Aside0.mk H
                clear H
                have hnb31 := NB193_191.out
                have hnc31 := NB191_193.out
                have hnb32 := NB193_192.out
                have hnc32 := NB192_193.out
                have hcz33_0 : wc.cell? ⟨gb193, 0, none⟩ = some (.int .i64 a2_0) := (blk_cell BK193.out 0).trans rfl
                have hcz33_1 : wc.cell? ⟨gb193, 1, none⟩ = some (.int .i64 a2_1) := (blk_cell BK193.out 1).trans rfl
                have hfz33_0 := blk_frozen BK193.out 0
                have hfz33_1 := blk_frozen BK193.out 1
                go_wp2
                go_meet
                case rel => exact ⟨_, (true), (by first | rfl | (simp; done) | (simp [*]; done)), H', ⟨by have := HJ6.out; first | omega | exact Nat.le_refl _⟩, ⟨by (with_reducible repeat (first | refine blk_drewN ?_ _ | refine blk_drew ?_ | refine blk_alloc ?_ _)); exact BK191.out⟩, ⟨by (with_reducible repeat (first | refine blk_drewN ?_ _ | refine blk_drew ?_ | refine blk_alloc ?_ _)); exact BK192.out⟩, ⟨by (with_reducible repeat (first | refine blk_drewN ?_ _ | refine blk_drew ?_ | refine blk_alloc ?_ _)); exact BK193.out⟩, ⟨by repeat (first | (with_reducible first | exact HB.out | apply below_alloc | apply pw_below_drewN | apply below_drew1 | refine below_set ?_ GE191.out | refine below_set ?_ GE192.out | refine below_set ?_ GE193.out) | exact HB.out)⟩⟩
              · rw [if_neg c30] at H
                have c30b0 : decide (a2_0 < 0) = false := decide_eq_false c30
                clear c30
                by_cases c34 : a2_0 > 1099511627776
                · rw [if_pos c34] at H
                  have c34b0 : decide (1099511627776 < a2_0) = true := decide_eq_true c34
                  clear c34
                  have H' := Aside0.mk H
                  clear H
                  have hnb35 := NB193_191.out
                  have hnc35 := NB191_193.out
                  have hnb36 := NB193_192.out
                  have hnc36 := NB192_193.out
                  have hcz37_0 : wc.cell? ⟨gb193, 0, none⟩ = some (.int .i64 a2_0) := (blk_cell BK193.out 0).trans rfl
                  have hcz37_1 : wc.cell? ⟨gb193, 1, none⟩ = some (.int .i64 a2_1) := (blk_cell BK193.out 1).trans rfl
                  have hfz37_0 := blk_frozen BK193.out 0
                  have hfz37_1 := blk_frozen BK193.out 1
                  go_wp2
                  go_meet
                  case rel => exact ⟨_, (true), (by first | rfl | (simp; done) | (simp [*]; done)), H', ⟨by have := HJ6.out; first | omega | exact Nat.le_refl _⟩, ⟨by (with_reducible repeat (first | refine blk_drewN ?_ _ | refine blk_drew ?_ | refine blk_alloc ?_ _)); exact BK191.out⟩, ⟨by (with_reducible repeat (first | refine blk_drewN ?_ _ | refine blk_drew ?_ | refine blk_alloc ?_ _)); exact BK192.out⟩, ⟨by (with_reducible repeat (first | refine blk_drewN ?_ _ | refine blk_drew ?_ | refine blk_alloc ?_ _)); exact BK193.out⟩, ⟨by repeat (first | (with_reducible first | exact HB.out | apply below_alloc | apply pw_below_drewN | apply below_drew1 | refine below_set ?_ GE191.out | refine below_set ?_ GE192.out | refine below_set ?_ GE193.out) | exact HB.out)⟩⟩
                · rw [if_neg c34] at H
                  have c34b0 : decide (1099511627776 < a2_0) = false := decide_eq_false c34
                  clear c34
                  replace H := Option.bind_eq_some_iff.mp H
                  obtain ⟨t203, A380, H⟩ := H
                  replace H : (if t203 = true then (if (Int.tmod a1_2 256) = (Int.tmod a0_3 256) then (tricklelaw41_ExpiryDeadline.j1 kj6 t198 (decide (a1_1 < a0_2)) a0_0 a0_1 a0_2 a0_3 a1_0 a1_1 a1_2 a2_0 a2_1) else (tricklelaw41_ExpiryDeadline.j1 kj6 t198 true a0_0 a0_1 a0_2 a0_3 a1_0 a1_1 a1_2 a2_0 a2_1)) else (tricklelaw41_ExpiryDeadline.j1 kj6 t198 true a0_0 a0_1 a0_2 a0_3 a1_0 a1_1 a1_2 a2_0 a2_1)) = some r := H
                  have A38 := Aside0.mk A380
                  clear A380
                  by_cases c39 : t203 = true
                  · subst c39
                    have H1 : (if (Int.tmod a1_2 256) = (Int.tmod a0_3 256) then (tricklelaw41_ExpiryDeadline.j1 kj6 t198 (decide (a1_1 < a0_2)) a0_0 a0_1 a0_2 a0_3 a1_0 a1_1 a1_2 a2_0 a2_1) else (tricklelaw41_ExpiryDeadline.j1 kj6 t198 true a0_0 a0_1 a0_2 a0_3 a1_0 a1_1 a1_2 a2_0 a2_1)) = some r := by rw [if_pos rfl] at H; exact H
                    clear H
                    have H := H1
                    clear H1
                    by_cases c40 : (Int.tmod a1_2 256) = (Int.tmod a0_3 256)
                    · rw [if_pos c40] at H
                      have c40b0 : ((Int.tmod a1_2 256) == (Int.tmod a0_3 256)) = true := beq_iff_eq.mpr c40
                      have c40b1 : ((Int.tmod a1_2 256) != (Int.tmod a0_3 256)) = false := bne_eq_false_iff_eq.mpr c40
                      clear c40
                      have H' := Aside0.mk H
                      clear H
                      have hnb41 := NB193_191.out
                      have hnc41 := NB191_193.out
                      have hnb42 := NB193_192.out
                      have hnc42 := NB192_193.out
                      have hcz43_0 : wc.cell? ⟨gb193, 0, none⟩ = some (.int .i64 a2_0) := (blk_cell BK193.out 0).trans rfl
                      have hcz43_1 : wc.cell? ⟨gb193, 1, none⟩ = some (.int .i64 a2_1) := (blk_cell BK193.out 1).trans rfl
                      have hfz43_0 := blk_frozen BK193.out 0
                      have hfz43_1 := blk_frozen BK193.out 1
                      have hnb44 := NB192_191.out
                      have hnc44 := NB191_192.out
                      have hcz45_0 : wc.cell? ⟨gb192, 0, none⟩ = some (.int .i64 a1_0) := (blk_cell BK192.out 0).trans rfl
                      have hcz45_1 : wc.cell? ⟨gb192, 1, none⟩ = some (.int .i64 a1_1) := (blk_cell BK192.out 1).trans rfl
                      have hcz45_2 : wc.cell? ⟨gb192, 2, none⟩ = some (.int .i64 a1_2) := (blk_cell BK192.out 2).trans rfl
                      have hfz45_0 := blk_frozen BK192.out 0
                      have hfz45_1 := blk_frozen BK192.out 1
                      have hfz45_2 := blk_frozen BK192.out 2
                      go_wp2_with (first | (go_at_call 25; (with_reducible refine (trickleref41_Valid.calls 0 a1_0 a1_1 a1_2 true _ A38.out).mono ?_); rintro e w46 ⟨rfl, hb⟩; have n0_ := Aside0.mk (blk_below (g := gb191) (o := .cells #[.int .i16 a0_0, .int .i64 a0_1, .int .i64 a0_2, .int .i64 a0_3] 49 (0, 0)) (by (with_reducible repeat (first | refine blk_drewN ?_ _ | refine blk_drew ?_ | refine blk_alloc ?_ _)); exact BK191.out) hb); have n1_ := Aside0.mk (blk_below (g := gb192) (o := .cells #[.int .i64 a1_0, .int .i64 a1_1, .int .i64 a1_2] 50 (0, 0)) (by (with_reducible repeat (first | refine blk_drewN ?_ _ | refine blk_drew ?_ | refine blk_alloc ?_ _)); exact BK192.out) hb); have n2_ := Aside0.mk (blk_below (g := gb193) (o := .cells #[.int .i64 a2_0, .int .i64 a2_1] 54 (0, 0)) (by (with_reducible repeat (first | refine blk_drewN ?_ _ | refine blk_drew ?_ | refine blk_alloc ?_ _)); exact BK193.out) hb); have n3_ := Aside0.mk (below_step (by repeat (first | (with_reducible first | exact HB.out | apply below_alloc | apply pw_below_drewN | apply below_drew1 | refine below_set ?_ GE191.out | refine below_set ?_ GE192.out | refine below_set ?_ GE193.out) | exact HB.out)) hb); clear BK191; clear BK192; clear BK193; clear HB; have BK191 := n0_; have BK192 := n1_; have BK193 := n2_; have HB := n3_; clear n0_ n1_ n2_ n3_; (try clear hb); (try clear hb2); (try clear hk); (try clear hi); have hcz47_0 : w46.cell? ⟨gb192, 0, none⟩ = some (.int .i64 a1_0) := (blk_cell BK192.out 0).trans rfl; have hcz47_1 : w46.cell? ⟨gb192, 1, none⟩ = some (.int .i64 a1_1) := (blk_cell BK192.out 1).trans rfl; have hcz47_2 : w46.cell? ⟨gb192, 2, none⟩ = some (.int .i64 a1_2) := (blk_cell BK192.out 2).trans rfl; have hfz47_0 := blk_frozen BK192.out 0; have hfz47_1 := blk_frozen BK192.out 1; have hfz47_2 := blk_frozen BK192.out 2; have hcz48_0 : w46.cell? ⟨gb191, 0, none⟩ = some (.int .i16 a0_0) := (blk_cell BK191.out 0).trans rfl; have hcz48_1 : w46.cell? ⟨gb191, 1, none⟩ = some (.int .i64 a0_1) := (blk_cell BK191.out 1).trans rfl; have hcz48_2 : w46.cell? ⟨gb191, 2, none⟩ = some (.int .i64 a0_2) := (blk_cell BK191.out 2).trans rfl; have hcz48_3 : w46.cell? ⟨gb191, 3, none⟩ = some (.int .i64 a0_3) := (blk_cell BK191.out 3).trans rfl; have hfz48_0 := blk_frozen BK191.out 0; have hfz48_1 := blk_frozen BK191.out 1; have hfz48_2 := blk_frozen BK191.out 2; have hfz48_3 := blk_frozen BK191.out 3))
                      go_meet
                      case rel => exact ⟨_, (decide (a1_1 < a0_2)), (by first | rfl | (simp; done) | (simp [*]; done)), H', ⟨by have := HJ6.out; first | omega | exact Nat.le_refl _⟩, ⟨by (with_reducible repeat (first | refine blk_drewN ?_ _ | refine blk_drew ?_ | refine blk_alloc ?_ _)); exact BK191.out⟩, ⟨by (with_reducible repeat (first | refine blk_drewN ?_ _ | refine blk_drew ?_ | refine blk_alloc ?_ _)); exact BK192.out⟩, ⟨by (with_reducible repeat (first | refine blk_drewN ?_ _ | refine blk_drew ?_ | refine blk_alloc ?_ _)); exact BK193.out⟩, ⟨by repeat (first | (with_reducible first | exact HB.out | apply below_alloc | apply pw_below_drewN | apply below_drew1 | refine below_set ?_ GE191.out | refine below_set ?_ GE192.out | refine below_set ?_ GE193.out) | exact HB.out)⟩⟩
                    · rw [if_neg c40] at H
                      have c40b0 : ((Int.tmod a1_2 256) == (Int.tmod a0_3 256)) = false := beq_eq_false_iff_ne.mpr c40
                      have c40b1 : ((Int.tmod a1_2 256) != (Int.tmod a0_3 256)) = true := bne_iff_ne.mpr c40
                      have H' := Aside0.mk H
                      clear H
                      have hnb49 := NB193_191.out
                      have hnc49 := NB191_193.out
                      have hnb50 := NB193_192.out
                      have hnc50 := NB192_193.out
                      have hcz51_0 : wc.cell? ⟨gb193, 0, none⟩ = some (.int .i64 a2_0) := (blk_cell BK193.out 0).trans rfl
                      have hcz51_1 : wc.cell? ⟨gb193, 1, none⟩ = some (.int .i64 a2_1) := (blk_cell BK193.out 1).trans rfl
                      have hfz51_0 := blk_frozen BK193.out 0
                      have hfz51_1 := blk_frozen BK193.out 1
                      have hnb52 := NB192_191.out
                      have hnc52 := NB191_192.out
                      have hcz53_0 : wc.cell? ⟨gb192, 0, none⟩ = some (.int .i64 a1_0) := (blk_cell BK192.out 0).trans rfl
                      have hcz53_1 : wc.cell? ⟨gb192, 1, none⟩ = some (.int .i64 a1_1) := (blk_cell BK192.out 1).trans rfl
                      have hcz53_2 : wc.cell? ⟨gb192, 2, none⟩ = some (.int .i64 a1_2) := (blk_cell BK192.out 2).trans rfl
                      have hfz53_0 := blk_frozen BK192.out 0
                      have hfz53_1 := blk_frozen BK192.out 1
                      have hfz53_2 := blk_frozen BK192.out 2
                      go_wp2_with (first | (go_at_call 25; (with_reducible refine (trickleref41_Valid.calls 0 a1_0 a1_1 a1_2 true _ A38.out).mono ?_); rintro e w54 ⟨rfl, hb⟩; have n0_ := Aside0.mk (blk_below (g := gb191) (o := .cells #[.int .i16 a0_0, .int .i64 a0_1, .int .i64 a0_2, .int .i64 a0_3] 49 (0, 0)) (by (with_reducible repeat (first | refine blk_drewN ?_ _ | refine blk_drew ?_ | refine blk_alloc ?_ _)); exact BK191.out) hb); have n1_ := Aside0.mk (blk_below (g := gb192) (o := .cells #[.int .i64 a1_0, .int .i64 a1_1, .int .i64 a1_2] 50 (0, 0)) (by (with_reducible repeat (first | refine blk_drewN ?_ _ | refine blk_drew ?_ | refine blk_alloc ?_ _)); exact BK192.out) hb); have n2_ := Aside0.mk (blk_below (g := gb193) (o := .cells #[.int .i64 a2_0, .int .i64 a2_1] 54 (0, 0)) (by (with_reducible repeat (first | refine blk_drewN ?_ _ | refine blk_drew ?_ | refine blk_alloc ?_ _)); exact BK193.out) hb); have n3_ := Aside0.mk (below_step (by repeat (first | (with_reducible first | exact HB.out | apply below_alloc | apply pw_below_drewN | apply below_drew1 | refine below_set ?_ GE191.out | refine below_set ?_ GE192.out | refine below_set ?_ GE193.out) | exact HB.out)) hb); clear BK191; clear BK192; clear BK193; clear HB; have BK191 := n0_; have BK192 := n1_; have BK193 := n2_; have HB := n3_; clear n0_ n1_ n2_ n3_; (try clear hb); (try clear hb2); (try clear hk); (try clear hi); have hcz55_0 : w54.cell? ⟨gb192, 0, none⟩ = some (.int .i64 a1_0) := (blk_cell BK192.out 0).trans rfl; have hcz55_1 : w54.cell? ⟨gb192, 1, none⟩ = some (.int .i64 a1_1) := (blk_cell BK192.out 1).trans rfl; have hcz55_2 : w54.cell? ⟨gb192, 2, none⟩ = some (.int .i64 a1_2) := (blk_cell BK192.out 2).trans rfl; have hfz55_0 := blk_frozen BK192.out 0; have hfz55_1 := blk_frozen BK192.out 1; have hfz55_2 := blk_frozen BK192.out 2; have hcz56_0 : w54.cell? ⟨gb191, 0, none⟩ = some (.int .i16 a0_0) := (blk_cell BK191.out 0).trans rfl; have hcz56_1 : w54.cell? ⟨gb191, 1, none⟩ = some (.int .i64 a0_1) := (blk_cell BK191.out 1).trans rfl; have hcz56_2 : w54.cell? ⟨gb191, 2, none⟩ = some (.int .i64 a0_2) := (blk_cell BK191.out 2).trans rfl; have hcz56_3 : w54.cell? ⟨gb191, 3, none⟩ = some (.int .i64 a0_3) := (blk_cell BK191.out 3).trans rfl; have hfz56_0 := blk_frozen BK191.out 0; have hfz56_1 := blk_frozen BK191.out 1; have hfz56_2 := blk_frozen BK191.out 2; have hfz56_3 := blk_frozen BK191.out 3))
                      go_meet
                      case rel => exact ⟨_, (true), (by first | rfl | (simp; done) | (simp [*]; done)), H', ⟨by have := HJ6.out; first | omega | exact Nat.le_refl _⟩, ⟨by (with_reducible repeat (first | refine blk_drewN ?_ _ | refine blk_drew ?_ | refine blk_alloc ?_ _)); exact BK191.out⟩, ⟨by (with_reducible repeat (first | refine blk_drewN ?_ _ | refine blk_drew ?_ | refine blk_alloc ?_ _)); exact BK192.out⟩, ⟨by (with_reducible repeat (first | refine blk_drewN ?_ _ | refine blk_drew ?_ | refine blk_alloc ?_ _)); exact BK193.out⟩, ⟨by repeat (first | (with_reducible first | exact HB.out | apply below_alloc | apply pw_below_drewN | apply below_drew1 | refine below_set ?_ GE191.out | refine below_set ?_ GE192.out | refine below_set ?_ GE193.out) | exact HB.out)⟩⟩
                  · replace c39 := Bool.eq_false_iff.mpr c39
                    subst c39
                    have H1 : (tricklelaw41_ExpiryDeadline.j1 kj6 t198 true a0_0 a0_1 a0_2 a0_3 a1_0 a1_1 a1_2 a2_0 a2_1) = some r := by rw [if_neg (show ¬ (false = true) by decide)] at H; exact H
                    clear H
                    have H := H1
                    clear H1
                    have H' := Aside0.mk H
                    clear H
                    have hnb57 := NB193_191.out
                    have hnc57 := NB191_193.out
                    have hnb58 := NB193_192.out
                    have hnc58 := NB192_193.out
                    have hcz59_0 : wc.cell? ⟨gb193, 0, none⟩ = some (.int .i64 a2_0) := (blk_cell BK193.out 0).trans rfl
                    have hcz59_1 : wc.cell? ⟨gb193, 1, none⟩ = some (.int .i64 a2_1) := (blk_cell BK193.out 1).trans rfl
                    have hfz59_0 := blk_frozen BK193.out 0
                    have hfz59_1 := blk_frozen BK193.out 1
                    have hnb60 := NB192_191.out
                    have hnc60 := NB191_192.out
                    have hcz61_0 : wc.cell? ⟨gb192, 0, none⟩ = some (.int .i64 a1_0) := (blk_cell BK192.out 0).trans rfl
                    have hcz61_1 : wc.cell? ⟨gb192, 1, none⟩ = some (.int .i64 a1_1) := (blk_cell BK192.out 1).trans rfl
                    have hcz61_2 : wc.cell? ⟨gb192, 2, none⟩ = some (.int .i64 a1_2) := (blk_cell BK192.out 2).trans rfl
                    have hfz61_0 := blk_frozen BK192.out 0
                    have hfz61_1 := blk_frozen BK192.out 1
                    have hfz61_2 := blk_frozen BK192.out 2
                    go_wp2_with (first | (go_at_call 25; (with_reducible refine (trickleref41_Valid.calls 0 a1_0 a1_1 a1_2 false _ A38.out).mono ?_); rintro e w62 ⟨rfl, hb⟩; have n0_ := Aside0.mk (blk_below (g := gb191) (o := .cells #[.int .i16 a0_0, .int .i64 a0_1, .int .i64 a0_2, .int .i64 a0_3] 49 (0, 0)) (by (with_reducible repeat (first | refine blk_drewN ?_ _ | refine blk_drew ?_ | refine blk_alloc ?_ _)); exact BK191.out) hb); have n1_ := Aside0.mk (blk_below (g := gb192) (o := .cells #[.int .i64 a1_0, .int .i64 a1_1, .int .i64 a1_2] 50 (0, 0)) (by (with_reducible repeat (first | refine blk_drewN ?_ _ | refine blk_drew ?_ | refine blk_alloc ?_ _)); exact BK192.out) hb); have n2_ := Aside0.mk (blk_below (g := gb193) (o := .cells #[.int .i64 a2_0, .int .i64 a2_1] 54 (0, 0)) (by (with_reducible repeat (first | refine blk_drewN ?_ _ | refine blk_drew ?_ | refine blk_alloc ?_ _)); exact BK193.out) hb); have n3_ := Aside0.mk (below_step (by repeat (first | (with_reducible first | exact HB.out | apply below_alloc | apply pw_below_drewN | apply below_drew1 | refine below_set ?_ GE191.out | refine below_set ?_ GE192.out | refine below_set ?_ GE193.out) | exact HB.out)) hb); clear BK191; clear BK192; clear BK193; clear HB; have BK191 := n0_; have BK192 := n1_; have BK193 := n2_; have HB := n3_; clear n0_ n1_ n2_ n3_; (try clear hb); (try clear hb2); (try clear hk); (try clear hi)))
                    go_meet
                    case rel => exact ⟨_, (true), (by first | rfl | (simp; done) | (simp [*]; done)), H', ⟨by have := HJ6.out; first | omega | exact Nat.le_refl _⟩, ⟨by (with_reducible repeat (first | refine blk_drewN ?_ _ | refine blk_drew ?_ | refine blk_alloc ?_ _)); exact BK191.out⟩, ⟨by (with_reducible repeat (first | refine blk_drewN ?_ _ | refine blk_drew ?_ | refine blk_alloc ?_ _)); exact BK192.out⟩, ⟨by (with_reducible repeat (first | refine blk_drewN ?_ _ | refine blk_drew ?_ | refine blk_alloc ?_ _)); exact BK193.out⟩, ⟨by repeat (first | (with_reducible first | exact HB.out | apply below_alloc | apply pw_below_drewN | apply below_drew1 | refine below_set ?_ GE191.out | refine below_set ?_ GE192.out | refine below_set ?_ GE193.out) | exact HB.out)⟩⟩
          · replace c28 := Bool.eq_false_iff.mpr c28
            subst c28
            have H1 : (tricklelaw41_ExpiryDeadline.j1 kj6 t198 true a0_0 a0_1 a0_2 a0_3 a1_0 a1_1 a1_2 a2_0 a2_1) = some r := by rw [if_neg (show ¬ (false = true) by decide)] at H; exact H
            clear H
            have H := H1
            clear H1
            have H' := Aside0.mk H
            clear H
            go_wp2
            go_meet
            case rel => exact ⟨_, (true), (by first | rfl | (simp; done) | (simp [*]; done)), H', ⟨by have := HJ6.out; first | omega | exact Nat.le_refl _⟩, ⟨by (with_reducible repeat (first | refine blk_drewN ?_ _ | refine blk_drew ?_ | refine blk_alloc ?_ _)); exact BK191.out⟩, ⟨by (with_reducible repeat (first | refine blk_drewN ?_ _ | refine blk_drew ?_ | refine blk_alloc ?_ _)); exact BK192.out⟩, ⟨by (with_reducible repeat (first | refine blk_drewN ?_ _ | refine blk_drew ?_ | refine blk_alloc ?_ _)); exact BK193.out⟩, ⟨by repeat (first | (with_reducible first | exact HB.out | apply below_alloc | apply pw_below_drewN | apply below_drew1 | refine below_set ?_ GE191.out | refine below_set ?_ GE192.out | refine below_set ?_ GE193.out) | exact HB.out)⟩⟩
        case rest =>
          clear HC27
          try clear c1
          try clear c2
          try clear p2
          try clear c3
          try clear c4
          try clear c5
          try clear c6
          try clear c9
          try clear c14
          try clear c15
          try clear c17
          try clear c19
          try clear c21
          try clear c22
          try clear c22b0
          try clear c22b1
          try clear c23
          try clear c24
          try clear c26
          try clear c28
          try clear c29
          try clear c29b0
          try clear c29b1
          try clear c30
          try clear c30b0
          try clear c31
          try clear c32
          try clear c34
          try clear c34b0
          try clear c35
          try clear c36
          try clear c39
          try clear c40
          try clear c40b0
          try clear c40b1
          try clear c41
          try clear c42
          try clear c44
          try clear c49
          try clear c50
          try clear c52
          try clear c57
          try clear c58
          try clear c60
          try clear hcz16_0
          try clear hcz16_1
          try clear hcz16_2
          try clear hcz16_3
          try clear hcz18_0
          try clear hcz18_1
          try clear hcz33_0
          try clear hcz33_1
          try clear hcz37_0
          try clear hcz37_1
          try clear hcz43_0
          try clear hcz43_1
          try clear hcz45_0
          try clear hcz45_1
          try clear hcz45_2
          try clear hcz47_0
          try clear hcz47_1
          try clear hcz47_2
          try clear hcz48_0
          try clear hcz48_1
          try clear hcz48_2
          try clear hcz48_3
          try clear hcz51_0
          try clear hcz51_1
          try clear hcz53_0
          try clear hcz53_1
          try clear hcz53_2
          try clear hcz55_0
          try clear hcz55_1
          try clear hcz55_2
          try clear hcz56_0
          try clear hcz56_1
          try clear hcz56_2
          try clear hcz56_3
          try clear hcz59_0
          try clear hcz59_1
          try clear hcz61_0
          try clear hcz61_1
          try clear hcz61_2
          try clear hfz16_0
          try clear hfz16_1
          try clear hfz16_2
          try clear hfz16_3
          try clear hfz18_0
          try clear hfz18_1
          try clear hfz33_0
          try clear hfz33_1
          try clear hfz37_0
          try clear hfz37_1
          try clear hfz43_0
          try clear hfz43_1
          try clear hfz45_0
          try clear hfz45_1
          try clear hfz45_2
          try clear hfz47_0
          try clear hfz47_1
          try clear hfz47_2
          try clear hfz48_0
          try clear hfz48_1
          try clear hfz48_2
          try clear hfz48_3
          try clear hfz51_0
          try clear hfz51_1
          try clear hfz53_0
          try clear hfz53_1
          try clear hfz53_2
          try clear hfz55_0
          try clear hfz55_1
          try clear hfz55_2
          try clear hfz56_0
          try clear hfz56_1
          try clear hfz56_2
          try clear hfz56_3
          try clear hfz59_0
          try clear hfz59_1
          try clear hfz61_0
          try clear hfz61_1
          try clear hfz61_2
          try clear p2
          obtain ⟨kq, x80_26, rfl, HA, HJ26, BK191, BK192, BK193, HB⟩ := hcut
          cases kq with
          | zero => exact absurd HA.out (by simp [tricklelaw41_ExpiryDeadline.j1])
          | succ kj26 =>
            have H := HA.out
            clear HA
            simp only [tricklelaw41_ExpiryDeadline.j1] at H
            by_cases c63 : x80_26 = true
            · subst c63
              have H1 : (some true) = some r := by rw [if_pos rfl] at H; exact H
              clear H
              have H := H1
              clear H1
              obtain rfl := Option.some.inj H
              go_wp2
              go_ret
              exact ⟨by first | rfl | (simp [errW_none, errW_some] <;> rfl) | (simp [*, errW_none, errW_some] <;> rfl), by repeat (first | (with_reducible first | exact HB.out | apply below_alloc | apply pw_below_drewN | apply below_drew1 | refine below_set ?_ GE191.out | refine below_set ?_ GE192.out | refine below_set ?_ GE193.out) | exact HB.out)⟩
            · replace c63 := Bool.eq_false_iff.mpr c63
              subst c63
              have H1 : ((tricklelaw41_own.f a0_0 a0_1 a0_2 a0_3).bind fun bt204 => ((tricklelaw41_now.f a1_0 a1_1 a1_2).bind fun bt208 => ((expiry_Usable.f bt204.1 bt204.2.1 bt204.2.2.1 bt204.2.2.2 bt208.1 bt208.2.1 bt208.2.2 a2_0 a2_1).bind fun t211 => (some (t211 == (decide ((wrap64 (a1_1 + a2_0)) ≤ t198))))))) = some r := by rw [if_neg (show ¬ (false = true) by decide)] at H; exact H
              clear H
              have H := H1
              clear H1
              replace H := Option.bind_eq_some_iff.mp H
              obtain ⟨⟨t204, t205, t206, t207⟩, A640, H⟩ := H
              replace H : ((tricklelaw41_now.f a1_0 a1_1 a1_2).bind fun bt208 => ((expiry_Usable.f t204 t205 t206 t207 bt208.1 bt208.2.1 bt208.2.2 a2_0 a2_1).bind fun t211 => (some (t211 == (decide ((wrap64 (a1_1 + a2_0)) ≤ t198)))))) = some r := H
              have A64 := Aside0.mk A640
              clear A640
              replace H := Option.bind_eq_some_iff.mp H
              obtain ⟨⟨t208, t209, t210⟩, A650, H⟩ := H
              replace H : ((expiry_Usable.f t204 t205 t206 t207 t208 t209 t210 a2_0 a2_1).bind fun t211 => (some (t211 == (decide ((wrap64 (a1_1 + a2_0)) ≤ t198))))) = some r := H
              have A65 := Aside0.mk A650
              clear A650
              replace H := Option.bind_eq_some_iff.mp H
              obtain ⟨t211, A660, H⟩ := H
              replace H : (some (t211 == (decide ((wrap64 (a1_1 + a2_0)) ≤ t198)))) = some r := H
              have A66 := Aside0.mk A660
              clear A660
              obtain rfl := Option.some.inj H
              try go_wp2
              have n0_ := Aside0.mk (blk_drew BK191.out)
              have n1_ := Aside0.mk (blk_drew BK192.out)
              have n2_ := Aside0.mk (blk_drew BK193.out)
              have n3_ := Aside0.mk (below_drew1 HB.out)
              clear BK191
              clear BK192
              clear BK193
              clear HB
              have BK191 := n0_
              have BK192 := n1_
              have BK193 := n2_
              have HB := n3_
              clear n0_ n1_ n2_ n3_
              refine start_ (n := 19) (S := fun w' => w'.cell? ⟨gb191, 0, none⟩ = some (.int .i16 a0_0) ∧ w'.cell? ⟨gb191, 1, none⟩ = some (.int .i64 a0_1) ∧ w'.cell? ⟨gb191, 2, none⟩ = some (.int .i64 a0_2) ∧ w'.cell? ⟨gb191, 3, none⟩ = some (.int .i64 a0_3) ∧ w'.cell? ⟨gb192, 0, none⟩ = some (.int .i64 a1_0) ∧ w'.cell? ⟨gb192, 1, none⟩ = some (.int .i64 a1_1) ∧ w'.cell? ⟨gb192, 2, none⟩ = some (.int .i64 a1_2) ∧ w'.cell? ⟨gb193, 0, none⟩ = some (.int .i64 a2_0) ∧ w'.cell? ⟨gb193, 1, none⟩ = some (.int .i64 a2_1)) (ds := []) #[false, false, false, false, false, false, false, false, false, false, false, false, false, false, false, false, false, false, false] (by kernel_rfl) rfl rfl ⟨(blk_cell BK191.out 0).trans rfl, (blk_cell BK191.out 1).trans rfl, (blk_cell BK191.out 2).trans rfl, (blk_cell BK191.out 3).trans rfl, (blk_cell BK192.out 0).trans rfl, (blk_cell BK192.out 1).trans rfl, (blk_cell BK192.out 2).trans rfl, (blk_cell BK193.out 0).trans rfl, (blk_cell BK193.out 1).trans rfl⟩ (fun hHeld => ?_); refine with_tabW tricklelaw41_ExpiryDeadline.tab7 tricklelaw41_ExpiryDeadline.bits7 (fun HT_ HW_ => ?_)
              generalize wc.drew = w67 at BK191 BK192 BK193 HB hHeld ⊢
              refine pure_ (i := 4) (N := some 85) (v := ?_) (a' := ?_) #[false, false, false, false, true, false, false, false, false, false, false, false, false, false, false, false, false, false, false] rfl rfl (any_of HT_.out (by kernel_rfl)) (fun _ _ _ h => h) (Or.inl ⟨by rfl, ?_⟩) ?_ ?_
              rotate_left
              · intro w'
                go_simp
                with_reducible rfl
              rotate_left
              · simp only [Act.put, List.setIfInBounds_toArray, List.set_cons_zero, List.set_cons_succ, i64_w, i32_w]
                rfl
              refine pure_ (i := 6) (N := some 87) (v := ?_) (a' := ?_) #[false, false, false, false, true, false, true, false, false, false, false, false, false, false, false, false, false, false, false] rfl rfl (any_of HT_.out (by kernel_rfl)) (fun _ _ _ h => h) (Or.inl ⟨by rfl, ?_⟩) ?_ ?_
              rotate_left
              · intro w'
                go_simp
                with_reducible rfl
              rotate_left
              · simp only [Act.put, List.setIfInBounds_toArray, List.set_cons_zero, List.set_cons_succ, i64_w, i32_w]
                rfl
              refine pure_ (i := 9) (N := some 90) (v := ?_) (a' := ?_) #[false, false, false, false, true, false, true, false, false, true, false, false, false, false, false, false, false, false, false] rfl rfl (any_of HT_.out (by kernel_rfl)) (fun _ _ _ h => h) (Or.inl ⟨by rfl, ?_⟩) ?_ ?_
              rotate_left
              · intro w'
                go_simp
                with_reducible rfl
              rotate_left
              · simp only [Act.put, List.setIfInBounds_toArray, List.set_cons_zero, List.set_cons_succ, i64_w, i32_w]
                rfl
              refine pure_ (i := 10) (N := some 91) (v := ?_) (a' := ?_) #[false, false, false, false, true, false, true, false, false, true, true, false, false, false, false, false, false, false, false] rfl rfl (any_of HT_.out (by kernel_rfl)) (fun _ _ _ h => h) (Or.inl ⟨by rfl, ?_⟩) ?_ ?_
              rotate_left
              · intro w'
                go_simp
                with_reducible rfl
              rotate_left
              · simp only [Act.put, List.setIfInBounds_toArray, List.set_cons_zero, List.set_cons_succ, i64_w, i32_w]
                rfl
              refine pure_ (i := 12) (N := some 93) (v := ?_) (a' := ?_) #[false, false, false, false, true, false, true, false, false, true, true, false, true, false, false, false, false, false, false] rfl rfl (any_of HT_.out (by kernel_rfl)) (fun _ _ _ h => h) (Or.inl ⟨by rfl, ?_⟩) ?_ ?_
              rotate_left
              · intro w'
                go_simp
                with_reducible rfl
              rotate_left
              · simp only [Act.put, List.setIfInBounds_toArray, List.set_cons_zero, List.set_cons_succ, i64_w, i32_w]
                rfl
              refine pure_ (i := 15) (N := some 96) (v := ?_) (a' := ?_) #[false, false, false, false, true, false, true, false, false, true, true, false, true, false, false, true, false, false, false] rfl rfl (any_of HT_.out (by kernel_rfl)) (fun _ _ _ h => h) (Or.inl ⟨by rfl, ?_⟩) ?_ ?_
              rotate_left
              · intro w'
                go_simp
                with_reducible rfl
              rotate_left
              · simp only [Act.put, List.setIfInBounds_toArray, List.set_cons_zero, List.set_cons_succ, i64_w, i32_w]
                rfl
              refine take_ (i := 0) (N := some 81) (v := ?_) (a' := ?_) #[true, false, false, false, true, false, true, false, false, true, true, false, true, false, false, true, false, false, false] rfl rfl (take_ofW HT_.out HW_.out (by kernel_rfl)) (fun _ _ _ h => h) (Or.inl ⟨by rfl, ?_⟩) hHeld ?_ ?_
              rotate_left
              · rintro w' ⟨s0, s1, s2, s3, s4, s5, s6, s7, s8⟩
                go_simp
                with_reducible rfl
              rotate_left
              · simp only [Act.put, List.setIfInBounds_toArray, List.set_cons_zero, List.set_cons_succ, i64_w, i32_w]
                rfl
              refine take_ (i := 2) (N := some 83) (v := ?_) (a' := ?_) #[true, false, true, false, true, false, true, false, false, true, true, false, true, false, false, true, false, false, false] rfl rfl (take_ofW HT_.out HW_.out (by kernel_rfl)) (fun _ _ _ h => h) (Or.inl ⟨by rfl, ?_⟩) hHeld ?_ ?_
              rotate_left
              · rintro w' ⟨s0, s1, s2, s3, s4, s5, s6, s7, s8⟩
                go_simp
                with_reducible rfl
              rotate_left
              · simp only [Act.put, List.setIfInBounds_toArray, List.set_cons_zero, List.set_cons_succ, i64_w, i32_w]
                rfl
              refine take_ (i := 5) (N := some 86) (v := ?_) (a' := ?_) #[true, false, true, false, true, true, true, false, false, true, true, false, true, false, false, true, false, false, false] rfl rfl (take_ofW HT_.out HW_.out (by kernel_rfl)) (fun _ _ _ h => h) (Or.inl ⟨by rfl, ?_⟩) hHeld ?_ ?_
              rotate_left
              · rintro w' ⟨s0, s1, s2, s3, s4, s5, s6, s7, s8⟩
                go_simp
                with_reducible rfl
              rotate_left
              · simp only [Act.put, List.setIfInBounds_toArray, List.set_cons_zero, List.set_cons_succ, i64_w, i32_w]
                rfl
              refine take_ (i := 7) (N := some 88) (v := ?_) (a' := ?_) #[true, false, true, false, true, true, true, true, false, true, true, false, true, false, false, true, false, false, false] rfl rfl (take_ofW HT_.out HW_.out (by kernel_rfl)) (fun _ _ _ h => h) (Or.inl ⟨by rfl, ?_⟩) hHeld ?_ ?_
              rotate_left
              · rintro w' ⟨s0, s1, s2, s3, s4, s5, s6, s7, s8⟩
                go_simp
                with_reducible rfl
              rotate_left
              · simp only [Act.put, List.setIfInBounds_toArray, List.set_cons_zero, List.set_cons_succ, i64_w, i32_w]
                rfl
              refine take_ (i := 11) (N := some 92) (v := ?_) (a' := ?_) #[true, false, true, false, true, true, true, true, false, true, true, true, true, false, false, true, false, false, false] rfl rfl (take_ofW HT_.out HW_.out (by kernel_rfl)) (fun _ _ _ h => h) (Or.inl ⟨by rfl, ?_⟩) hHeld ?_ ?_
              rotate_left
              · rintro w' ⟨s0, s1, s2, s3, s4, s5, s6, s7, s8⟩
                go_simp
                with_reducible rfl
              rotate_left
              · simp only [Act.put, List.setIfInBounds_toArray, List.set_cons_zero, List.set_cons_succ, i64_w, i32_w]
                rfl
              refine take_ (i := 13) (N := some 94) (v := ?_) (a' := ?_) #[true, false, true, false, true, true, true, true, false, true, true, true, true, true, false, true, false, false, false] rfl rfl (take_ofW HT_.out HW_.out (by kernel_rfl)) (fun _ _ _ h => h) (Or.inl ⟨by rfl, ?_⟩) hHeld ?_ ?_
              rotate_left
              · rintro w' ⟨s0, s1, s2, s3, s4, s5, s6, s7, s8⟩
                go_simp
                with_reducible rfl
              rotate_left
              · simp only [Act.put, List.setIfInBounds_toArray, List.set_cons_zero, List.set_cons_succ, i64_w, i32_w]
                rfl
              refine pure_ (i := 14) (N := some 95) (v := ?_) (a' := ?_) #[true, false, true, false, true, true, true, true, false, true, true, true, true, true, true, true, false, false, false] rfl rfl (any_of HT_.out (by kernel_rfl)) (fun _ _ _ h => h) (Or.inl ⟨by rfl, ?_⟩) ?_ ?_
              rotate_left
              · intro w'
                go_simp
                with_reducible rfl
              rotate_left
              · simp only [Act.put, List.setIfInBounds_toArray, List.set_cons_zero, List.set_cons_succ, i64_w, i32_w]
                rfl
              refine pure_ (i := 16) (N := some 97) (v := ?_) (a' := ?_) #[true, false, true, false, true, true, true, true, false, true, true, true, true, true, true, true, true, false, false] rfl rfl (any_of HT_.out (by kernel_rfl)) (fun _ _ _ h => h) (Or.inl ⟨by rfl, ?_⟩) ?_ ?_
              rotate_left
              · intro w'
                go_simp
                with_reducible rfl
              rotate_left
              · simp only [Act.put, List.setIfInBounds_toArray, List.set_cons_zero, List.set_cons_succ, i64_w, i32_w]
                rfl
              refine one_ (i := 1) (N := some 82) #[true, true, true, false, true, true, true, true, false, true, true, true, true, true, true, true, true, false, false] rfl rfl (one_of HT_.out (by kernel_rfl)) (by decide) (fun K hK => ?_)
              refine goes_ Try.func19 (by kernel_rfl) rfl #[.agg #[.int .i16 a0_0, .int .i64 a0_1, .int .i64 a0_2, .int .i64 a0_3]] (by rfl) rfl rfl (by (try simp only [List.map_toArray, List.map_cons, List.map_nil]); first | done | rfl | (simp only [List.length_drop, List.length_take]; rfl)) ?_
              with_reducible refine (tricklelaw41_own.calls a0_0 a0_1 a0_2 a0_3 t204 t205 t206 t207 _ A64.out).mono ?_
              rintro e w68 ⟨rfl, hb⟩
              refine ⟨_, rfl, ?_⟩
              have n0_ := Aside0.mk (blk_below (g := gb191) (o := .cells #[.int .i16 a0_0, .int .i64 a0_1, .int .i64 a0_2, .int .i64 a0_3] 49 (0, 0)) (by (with_reducible repeat (first | refine blk_drewN ?_ _ | refine blk_drew ?_ | refine blk_alloc ?_ _)); exact BK191.out) hb)
              have n1_ := Aside0.mk (blk_below (g := gb192) (o := .cells #[.int .i64 a1_0, .int .i64 a1_1, .int .i64 a1_2] 50 (0, 0)) (by (with_reducible repeat (first | refine blk_drewN ?_ _ | refine blk_drew ?_ | refine blk_alloc ?_ _)); exact BK192.out) hb)
              have n2_ := Aside0.mk (blk_below (g := gb193) (o := .cells #[.int .i64 a2_0, .int .i64 a2_1] 54 (0, 0)) (by (with_reducible repeat (first | refine blk_drewN ?_ _ | refine blk_drew ?_ | refine blk_alloc ?_ _)); exact BK193.out) hb)
              have n3_ := Aside0.mk (below_step (by repeat (first | (with_reducible first | exact HB.out | apply below_alloc | apply pw_below_drewN | apply below_drew1 | refine below_set ?_ GE191.out | refine below_set ?_ GE192.out | refine below_set ?_ GE193.out) | exact HB.out)) hb)
              clear BK191
              clear BK192
              clear BK193
              clear HB
              have BK191 := n0_
              have BK192 := n1_
              have BK193 := n2_
              have HB := n3_
              clear n0_ n1_ n2_ n3_
              (try clear hb)
              (try clear hb2)
              (try clear hk)
              (try clear hi)
              refine hK.out _ _ ⟨(blk_cell BK191.out 0).trans rfl, (blk_cell BK191.out 1).trans rfl, (blk_cell BK191.out 2).trans rfl, (blk_cell BK191.out 3).trans rfl, (blk_cell BK192.out 0).trans rfl, (blk_cell BK192.out 1).trans rfl, (blk_cell BK192.out 2).trans rfl, (blk_cell BK193.out 0).trans rfl, (blk_cell BK193.out 1).trans rfl⟩ (fun hHeld => ?_)
              clear hK K
              refine norm_ (a' := ?_) ?_ ?_
              rotate_left
              · show Act.put _ (some 82) _ = _
                simp only [Act.put, List.setIfInBounds_toArray, List.set_cons_zero, List.set_cons_succ, i64_w, i32_w]
                rfl
              refine one_ (i := 3) (N := some 84) #[true, true, true, true, true, true, true, true, false, true, true, true, true, true, true, true, true, false, false] rfl rfl (one_of HT_.out (by kernel_rfl)) (by decide) (fun K hK => ?_)
              refine goes_ Try.func20 (by kernel_rfl) rfl #[.agg #[.int .i64 a1_0, .int .i64 a1_1, .int .i64 a1_2]] (by rfl) rfl rfl (by (try simp only [List.map_toArray, List.map_cons, List.map_nil]); first | done | rfl | (simp only [List.length_drop, List.length_take]; rfl)) ?_
              with_reducible refine (tricklelaw41_now.calls a1_0 a1_1 a1_2 t208 t209 t210 _ A65.out).mono ?_
              rintro e w69 ⟨rfl, hb⟩
              refine ⟨_, rfl, ?_⟩
              have n0_ := Aside0.mk (blk_below (g := gb191) (o := .cells #[.int .i16 a0_0, .int .i64 a0_1, .int .i64 a0_2, .int .i64 a0_3] 49 (0, 0)) (by (with_reducible repeat (first | refine blk_drewN ?_ _ | refine blk_drew ?_ | refine blk_alloc ?_ _)); exact BK191.out) hb)
              have n1_ := Aside0.mk (blk_below (g := gb192) (o := .cells #[.int .i64 a1_0, .int .i64 a1_1, .int .i64 a1_2] 50 (0, 0)) (by (with_reducible repeat (first | refine blk_drewN ?_ _ | refine blk_drew ?_ | refine blk_alloc ?_ _)); exact BK192.out) hb)
              have n2_ := Aside0.mk (blk_below (g := gb193) (o := .cells #[.int .i64 a2_0, .int .i64 a2_1] 54 (0, 0)) (by (with_reducible repeat (first | refine blk_drewN ?_ _ | refine blk_drew ?_ | refine blk_alloc ?_ _)); exact BK193.out) hb)
              have n3_ := Aside0.mk (below_step (by repeat (first | (with_reducible first | exact HB.out | apply below_alloc | apply pw_below_drewN | apply below_drew1 | refine below_set ?_ GE191.out | refine below_set ?_ GE192.out | refine below_set ?_ GE193.out) | exact HB.out)) hb)
              clear BK191
              clear BK192
              clear BK193
              clear HB
              have BK191 := n0_
              have BK192 := n1_
              have BK193 := n2_
              have HB := n3_
              clear n0_ n1_ n2_ n3_
              (try clear hb)
              (try clear hb2)
              (try clear hk)
              (try clear hi)
              refine hK.out _ _ ⟨(blk_cell BK191.out 0).trans rfl, (blk_cell BK191.out 1).trans rfl, (blk_cell BK191.out 2).trans rfl, (blk_cell BK191.out 3).trans rfl, (blk_cell BK192.out 0).trans rfl, (blk_cell BK192.out 1).trans rfl, (blk_cell BK192.out 2).trans rfl, (blk_cell BK193.out 0).trans rfl, (blk_cell BK193.out 1).trans rfl⟩ (fun hHeld => ?_)
              clear hK K
              refine norm_ (a' := ?_) ?_ ?_
              rotate_left
              · show Act.put _ (some 84) _ = _
                simp only [Act.put, List.setIfInBounds_toArray, List.set_cons_zero, List.set_cons_succ, i64_w, i32_w]
                rfl
              refine one_ (i := 8) (N := some 89) #[true, true, true, true, true, true, true, true, true, true, true, true, true, true, true, true, true, false, false] rfl rfl (one_of HT_.out (by kernel_rfl)) (by decide) (fun K hK => ?_)
              refine goes_ Try.func26 (by kernel_rfl) rfl #[.agg #[.int .i16 t204, .int .i64 t205, .int .i64 t206, .int .i64 t207], .agg #[.int .i64 t208, .int .i64 t209, .int .i64 t210], .int .i64 a2_0, .int .i64 a2_1] (by rfl) rfl rfl (by (try simp only [List.map_toArray, List.map_cons, List.map_nil]); first | done | rfl | (simp only [List.length_drop, List.length_take]; rfl)) ?_
              with_reducible refine (expiry_Usable.calls t204 t205 t206 t207 t208 t209 t210 a2_0 a2_1 t211 _ A66.out).mono ?_
              rintro e w70 ⟨rfl, hb⟩
              refine ⟨_, rfl, ?_⟩
              have n0_ := Aside0.mk (blk_below (g := gb191) (o := .cells #[.int .i16 a0_0, .int .i64 a0_1, .int .i64 a0_2, .int .i64 a0_3] 49 (0, 0)) (by (with_reducible repeat (first | refine blk_drewN ?_ _ | refine blk_drew ?_ | refine blk_alloc ?_ _)); exact BK191.out) hb)
              have n1_ := Aside0.mk (blk_below (g := gb192) (o := .cells #[.int .i64 a1_0, .int .i64 a1_1, .int .i64 a1_2] 50 (0, 0)) (by (with_reducible repeat (first | refine blk_drewN ?_ _ | refine blk_drew ?_ | refine blk_alloc ?_ _)); exact BK192.out) hb)
              have n2_ := Aside0.mk (blk_below (g := gb193) (o := .cells #[.int .i64 a2_0, .int .i64 a2_1] 54 (0, 0)) (by (with_reducible repeat (first | refine blk_drewN ?_ _ | refine blk_drew ?_ | refine blk_alloc ?_ _)); exact BK193.out) hb)
              have n3_ := Aside0.mk (below_step (by repeat (first | (with_reducible first | exact HB.out | apply below_alloc | apply pw_below_drewN | apply below_drew1 | refine below_set ?_ GE191.out | refine below_set ?_ GE192.out | refine below_set ?_ GE193.out) | exact HB.out)) hb)
              clear BK191
              clear BK192
              clear BK193
              clear HB
              have BK191 := n0_
              have BK192 := n1_
              have BK193 := n2_
              have HB := n3_
              clear n0_ n1_ n2_ n3_
              (try clear hb)
              (try clear hb2)
              (try clear hk)
              (try clear hi)
              refine hK.out _ _ ⟨(blk_cell BK191.out 0).trans rfl, (blk_cell BK191.out 1).trans rfl, (blk_cell BK191.out 2).trans rfl, (blk_cell BK191.out 3).trans rfl, (blk_cell BK192.out 0).trans rfl, (blk_cell BK192.out 1).trans rfl, (blk_cell BK192.out 2).trans rfl, (blk_cell BK193.out 0).trans rfl, (blk_cell BK193.out 1).trans rfl⟩ (fun hHeld => ?_)
              clear hK K
              refine norm_ (a' := ?_) ?_ ?_
              rotate_left
              · show Act.put _ (some 89) _ = _
                simp only [Act.put, List.setIfInBounds_toArray, List.set_cons_zero, List.set_cons_succ, i64_w, i32_w]
                rfl
              refine pure_ (i := 17) (N := some 98) (v := ?_) (a' := ?_) #[true, true, true, true, true, true, true, true, true, true, true, true, true, true, true, true, true, true, false] rfl rfl (any_of HT_.out (by kernel_rfl)) (fun _ _ _ h => h) (Or.inl ⟨by rfl, ?_⟩) ?_ ?_
              rotate_left
              · intro w'
                go_simp
                with_reducible rfl
              rotate_left
              · simp only [Act.put, List.setIfInBounds_toArray, List.set_cons_zero, List.set_cons_succ, i64_w, i32_w]
                rfl
              refine pure_ (i := 18) (N := some 6) (v := ?_) (a' := ?_) #[true, true, true, true, true, true, true, true, true, true, true, true, true, true, true, true, true, true, true] rfl rfl (any_of HT_.out (by kernel_rfl)) (fun _ _ _ h => h) (Or.inl ⟨by rfl, ?_⟩) ?_ ?_
              rotate_left
              · intro w'
                go_simp
                with_reducible rfl
              rotate_left
              · simp only [Act.put, List.setIfInBounds_toArray, List.set_cons_zero, List.set_cons_succ, i64_w, i32_w]
                rfl
              refine done_ (done_of HT_.out (by kernel_rfl)) ?_
              try go_wp2
              go_ret
              exact ⟨by first | rfl | (simp [errW_none, errW_some] <;> rfl) | (simp [*, errW_none, errW_some] <;> rfl), by repeat (first | (with_reducible first | exact HB.out | apply below_alloc | apply pw_below_drewN | apply below_drew1 | refine below_set ?_ GE191.out | refine below_set ?_ GE192.out | refine below_set ?_ GE193.out) | exact HB.out)⟩

end Go.Proofs.Ytgefhejpaojhbaa.Pr
