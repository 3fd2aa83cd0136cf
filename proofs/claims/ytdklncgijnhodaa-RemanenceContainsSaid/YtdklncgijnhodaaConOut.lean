/-
  RemanenceContains: the cases where the first test turns, and the walk of the statement.
-/
import Derived.Test.YtdklncgijnhodaaConLaw
import Derived.Test.YtdklncgijnhodaaClkLaw
set_option linter.unusedVariables false
namespace Go.Proofs.Ytdklncgijnhodaa.ConOut
open Go.Deep Go.RowKit Go.ChangeShapes Go.WideShapes Go.ChangeAt Go.Proofs.Ytdklncgijnhodaa.Pr Go.Proofs.Ytdklncgijnhodaa.Plain Go.Proofs.Ytdklncgijnhodaa.ConPl Go.Proofs.Ytdklncgijnhodaa.ClkLaw Go.Proofs.Ytdklncgijnhodaa.ConLaw Go.Proofs.Ytdklncgijnhodaa.Open Go.Proofs.Ytdklncgijnhodaa.Do Go.Proofs.YtdklncgijnhodaaW.PrintWords Go.Proofs.YtdklncgijnhodaaW.PrintLast
variable {H : Type} {enc : TypeId × Value → H}
set_option maxHeartbeats 1000000 in
set_option maxRecDepth 100000 in
theorem out0 (e s fr : Int) (a : Option Addr) (n cap : Nat) (w : World) (hR : ¬ (0 ≤ e ∧ e ≤ 500 ∧ 1 ≤ s ∧ s ≤ 1099511627776)) :
    Calls Try.prog 6 #[.agg #[.int .i64 e, .int .i64 s], .slice a n cap, .int .i64 fr] w fun e w' => e = .returned (.bool true) ∧ Below w.heap.size w w' := by
  have HRt := Aside0.mk (show trickleref09_Right.f e s = some false by rw [right_tells, decide_eq_false hR])
  clear hR
  go_enter Try.func6, Try.ntmps6
  go_wp2_with fail
  refine (tricklelaw09_examples.calls true _ rfl).mono ?_
  rintro ee w1 ⟨rfl, hb1⟩
  have BK := blk_below (blk_new w (.cells #[.int .i64 e, .int .i64 s] 23)) hb1
  have k0 : w1.cell? ⟨w.heap.size, 0, none⟩ = some (.int .i64 e) := (blk_cell BK 0).trans rfl
  have k1 : w1.cell? ⟨w.heap.size, 1, none⟩ = some (.int .i64 s) := (blk_cell BK 1).trans rfl
  have HB1 := Aside0.mk (below_step (below_alloc (Below.refl w.heap.size w) _) hb1)
  clear BK hb1
  go_wp2_with fail
  refine (trickleref09_Right.calls _ _ _ _ HRt.out).mono ?_
  rintro ee w2 ⟨rfl, hb2⟩
  have HB2 := Aside0.mk (below_step HB1.out hb2)
  clear HB1 hb2 k0 k1
  go_wp2_with fail
  refine (tricklelaw09_examples.calls true _ rfl).mono ?_
  rintro ee w3 ⟨rfl, hb3⟩
  have HB3 := Aside0.mk (below_step HB2.out hb3)
  clear HB2 hb3
  go_wp2
  go_ret
  exact ⟨rfl, HB3.out⟩
set_option maxHeartbeats 1000000 in
set_option maxRecDepth 100000 in
theorem out1 (e s fr : Int) (a : Option Addr) (n cap : Nat) (w : World) (hR : 0 ≤ e ∧ e ≤ 500 ∧ 1 ≤ s ∧ s ≤ 1099511627776) (h1 : n > 60) :
    Calls Try.prog 6 #[.agg #[.int .i64 e, .int .i64 s], .slice a n cap, .int .i64 fr] w fun e w' => e = .returned (.bool true) ∧ Below w.heap.size w w' := by
  have HRt := Aside0.mk (show trickleref09_Right.f e s = some true by rw [right_tells, decide_eq_true hR])
  clear hR
  have c1 : decide ((60 : Int) < (n : Int)) = true := decide_eq_true (by omega)
  have c1' : decide (60 < n) = true := decide_eq_true (by omega)
  clear h1
  go_enter Try.func6, Try.ntmps6
  go_wp2_with fail
  refine (tricklelaw09_examples.calls true _ rfl).mono ?_
  rintro ee w1 ⟨rfl, hb1⟩
  have BK := blk_below (blk_new w (.cells #[.int .i64 e, .int .i64 s] 23)) hb1
  have k0 : w1.cell? ⟨w.heap.size, 0, none⟩ = some (.int .i64 e) := (blk_cell BK 0).trans rfl
  have k1 : w1.cell? ⟨w.heap.size, 1, none⟩ = some (.int .i64 s) := (blk_cell BK 1).trans rfl
  have HB1 := Aside0.mk (below_step (below_alloc (Below.refl w.heap.size w) _) hb1)
  clear BK hb1
  go_wp2_with fail
  refine (trickleref09_Right.calls _ _ _ _ HRt.out).mono ?_
  rintro ee w2 ⟨rfl, hb2⟩
  have HB2 := Aside0.mk (below_step HB1.out hb2)
  clear HB1 hb2 k0 k1
  go_wp2_with fail
  refine (tricklelaw09_examples.calls true _ rfl).mono ?_
  rintro ee w3 ⟨rfl, hb3⟩
  have HB3 := Aside0.mk (below_step HB2.out hb3)
  clear HB2 hb3
  go_wp2
  go_ret
  exact ⟨rfl, HB3.out⟩
set_option maxHeartbeats 1000000 in
set_option maxRecDepth 100000 in
theorem out2 (e s fr : Int) (a : Option Addr) (n cap : Nat) (w : World) (hR : 0 ≤ e ∧ e ≤ 500 ∧ 1 ≤ s ∧ s ≤ 1099511627776) (h1 : ¬ n > 60) (h2 : fr < 0) :
    Calls Try.prog 6 #[.agg #[.int .i64 e, .int .i64 s], .slice a n cap, .int .i64 fr] w fun e w' => e = .returned (.bool true) ∧ Below w.heap.size w w' := by
  have HRt := Aside0.mk (show trickleref09_Right.f e s = some true by rw [right_tells, decide_eq_true hR])
  clear hR
  have c1 : decide ((60 : Int) < (n : Int)) = false := decide_eq_false (by omega)
  have c1' : decide (60 < n) = false := decide_eq_false (by omega)
  have c2 : decide (fr < 0) = true := decide_eq_true (by omega)
  clear h1 h2
  go_enter Try.func6, Try.ntmps6
  go_wp2_with fail
  refine (tricklelaw09_examples.calls true _ rfl).mono ?_
  rintro ee w1 ⟨rfl, hb1⟩
  have BK := blk_below (blk_new w (.cells #[.int .i64 e, .int .i64 s] 23)) hb1
  have k0 : w1.cell? ⟨w.heap.size, 0, none⟩ = some (.int .i64 e) := (blk_cell BK 0).trans rfl
  have k1 : w1.cell? ⟨w.heap.size, 1, none⟩ = some (.int .i64 s) := (blk_cell BK 1).trans rfl
  have HB1 := Aside0.mk (below_step (below_alloc (Below.refl w.heap.size w) _) hb1)
  clear BK hb1
  go_wp2_with fail
  refine (trickleref09_Right.calls _ _ _ _ HRt.out).mono ?_
  rintro ee w2 ⟨rfl, hb2⟩
  have HB2 := Aside0.mk (below_step HB1.out hb2)
  clear HB1 hb2 k0 k1
  go_wp2_with fail
  refine (tricklelaw09_examples.calls true _ rfl).mono ?_
  rintro ee w3 ⟨rfl, hb3⟩
  have HB3 := Aside0.mk (below_step HB2.out hb3)
  clear HB2 hb3
  go_wp2
  go_ret
  exact ⟨rfl, HB3.out⟩
set_option maxHeartbeats 1000000 in
set_option maxRecDepth 100000 in
theorem out3 (e s fr : Int) (a : Option Addr) (n cap : Nat) (w : World) (hR : 0 ≤ e ∧ e ≤ 500 ∧ 1 ≤ s ∧ s ≤ 1099511627776) (h1 : ¬ n > 60) (h2 : ¬ fr < 0) (h3 : (n : Int) ≤ fr) :
    Calls Try.prog 6 #[.agg #[.int .i64 e, .int .i64 s], .slice a n cap, .int .i64 fr] w fun e w' => e = .returned (.bool true) ∧ Below w.heap.size w w' := by
  have HRt := Aside0.mk (show trickleref09_Right.f e s = some true by rw [right_tells, decide_eq_true hR])
  clear hR
  have c1 : decide ((60 : Int) < (n : Int)) = false := decide_eq_false (by omega)
  have c1' : decide (60 < n) = false := decide_eq_false (by omega)
  have c2 : decide (fr < 0) = false := decide_eq_false (by omega)
  have c3 : decide ((n : Int) ≤ fr) = true := decide_eq_true (by omega)
  clear h1 h2 h3
  go_enter Try.func6, Try.ntmps6
  go_wp2_with fail
  refine (tricklelaw09_examples.calls true _ rfl).mono ?_
  rintro ee w1 ⟨rfl, hb1⟩
  have BK := blk_below (blk_new w (.cells #[.int .i64 e, .int .i64 s] 23)) hb1
  have k0 : w1.cell? ⟨w.heap.size, 0, none⟩ = some (.int .i64 e) := (blk_cell BK 0).trans rfl
  have k1 : w1.cell? ⟨w.heap.size, 1, none⟩ = some (.int .i64 s) := (blk_cell BK 1).trans rfl
  have HB1 := Aside0.mk (below_step (below_alloc (Below.refl w.heap.size w) _) hb1)
  clear BK hb1
  go_wp2_with fail
  refine (trickleref09_Right.calls _ _ _ _ HRt.out).mono ?_
  rintro ee w2 ⟨rfl, hb2⟩
  have HB2 := Aside0.mk (below_step HB1.out hb2)
  clear HB1 hb2 k0 k1
  go_wp2_with fail
  refine (tricklelaw09_examples.calls true _ rfl).mono ?_
  rintro ee w3 ⟨rfl, hb3⟩
  have HB3 := Aside0.mk (below_step HB2.out hb3)
  clear HB2 hb3
  go_wp2
  go_ret
  exact ⟨rfl, HB3.out⟩
section
variable {w : World} {base : Nat} {spare : Nat → Bool} {held : Bool}
theorem u32_bd {n : Int} (h : (Lit.int .u32 n).wf = true) : 0 ≤ n ∧ n ≤ 4294967295 := by
  have h1 : IntKind.u32.min = 0 := by decide
  have h2 : IntKind.u32.max = 4294967295 := by decide
  simp only [Lit.wf, h1, h2, Bool.and_eq_true, decide_eq_true_eq] at h
  exact h
theorem pow_leaf {fuel : Nat} {cs : List Value} {y : DataW H × List MemPlace} (hl : cs.length = 2) (h : DataW.trod enc Try.prog w base spare held fuel 52 cs = some y) : ∃ x : S52, k52.K w x cs ∧ ((0 ≤ x.f0 ∧ x.f0 ≤ 4294967295) ∧ (0 ≤ x.f1 ∧ x.f1 ≤ 4294967295)) :=
  match cs, hl with
  | [x0, x1], _ => by
    have hz : Try.prog.cellsOf 50 = 1 := by kernel_rfl
    obtain ⟨y0, y1, n, h0, h1⟩ := trod_s2 Try.underlying52 h
    simp only [hz] at h0 h1
    simp at h0 h1
    obtain ⟨a, rfl, ha⟩ := int_leaf Try.underlying50 h0
    obtain ⟨b, rfl, hb⟩ := int_leaf Try.underlying50 h1
    exact ⟨(⟨a, b⟩ : S52), k52_mk w _, u32_bd ha, u32_bd hb⟩
end
theorem walk (W : World) (base : Nat) (v0 : Value) (d0 : DataW H) (p0 : List MemPlace) (v1 : Value) (d1 : DataW H) (p1 : List MemPlace) (v2 : Value) (d2 : DataW H) (p2 : List MemPlace) (o0 : Value.okWide Try.prog W .any base 23 v0) (h0 : DataW.Trod enc Try.prog W 0 (fun _ => true) true 23 v0 d0 p0) (o1 : Value.okWide Try.prog W .any base 48 v1) (h1 : DataW.Trod enc Try.prog W 0 (fun _ => true) true 48 v1 d1 p1) (o2 : Value.okWide Try.prog W .any base 3 v2) (h2 : DataW.Trod enc Try.prog W 0 (fun _ => true) true 3 v2 d2 p2) :
    Calls Try.prog 6 #[v0, v1, v2] W fun e w' => e = .returned (.bool true) ∧ Below W.heap.size W w' := by
  obtain ⟨c0, c1, y0, y1, n, rfl, rfl, rfl, hy0, hy1⟩ := Joins.open_agg2 Try.underlying23 (by kernel_rfl) (by kernel_rfl) o0 h0
  obtain ⟨e, rfl, _⟩ := int_leaf Try.underlying3 hy0
  obtain ⟨s, rfl, _⟩ := int_leaf Try.underlying2 hy1
  obtain ⟨fr, rfl⟩ := okWide_int Try.underlying3 o2
  obtain ⟨a, cap, xs, rfl, _, hC, hx⟩ := rows_of k52 (fun x : S52 => (0 ≤ x.f0 ∧ x.f0 ≤ 4294967295) ∧ (0 ≤ x.f1 ∧ x.f1 ≤ 4294967295)) Try.underlying48 (by kernel_rfl) (fun fuel cs y hl h => pow_leaf hl h) o1 h1
  by_cases hR : 0 ≤ e ∧ e ≤ 500 ∧ 1 ≤ s ∧ s ≤ 1099511627776
  · by_cases g1 : xs.length > 60
    · exact out1 e s fr a xs.length cap W hR g1
    · by_cases g2 : fr < 0
      · exact out2 e s fr a xs.length cap W hR g1 g2
      · by_cases g3 : (xs.length : Int) ≤ fr
        · exact out3 e s fr a xs.length cap W hR g1 g2 g3
        · exact calls e s fr a cap xs W hC hx hR ⟨by omega, by omega, by omega⟩
  · exact out0 e s fr a xs.length cap W hR
end Go.Proofs.Ytdklncgijnhodaa.ConOut
