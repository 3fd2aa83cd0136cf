/-
  SenderNew: whatever the window and the retry time.
-/
import Derived.Test.YtjblfldgeemciaaOpen
set_option linter.unusedVariables false
namespace Go.Proofs.Ytjblfldgeemciaa.NewLaw
open Go.RowKit Go.ChangeShapes Go.WideShapes Go.ChangeAt Go.Maps Go.Proofs.YtjblfldgeemciaaW.PrintWords Go.Proofs.YtjblfldgeemciaaW.PrintLast Go.Proofs.Ytjblfldgeemciaa.Pr Go.Proofs.Ytjblfldgeemciaa.Sd
theorem newref_good (win retry : Int) (h : good win retry) : trickleref45_New.f win retry = some (win, retry, 0, [], [], true) := by
  unfold good at h
  unfold trickleref45_New.f
  rw [if_pos (by omega), if_pos (by omega), if_pos (by omega), decide_eq_true (by omega)]
theorem newref_bad (win retry : Int) (h : ¬ good win retry) : trickleref45_New.f win retry = some (win, retry, 0, [], [], false) := by
  unfold good at h
  unfold trickleref45_New.f
  by_cases h1 : win ≥ 1
  · rw [if_pos h1]
    by_cases h2 : win ≤ 32
    · rw [if_pos h2]
      by_cases h3 : retry ≥ 1
      · rw [if_pos h3, decide_eq_false (by omega)]
      · rw [if_neg h3]
    · rw [if_neg h2]
  · rw [if_neg h1]
set_option maxHeartbeats 1000000 in
set_option maxRecDepth 100000 in
theorem calls (win retry : Int) (w : World) : Calls Try.prog 4 #[.int .i64 win, .int .i64 retry] w fun e w' => e = .returned (.bool true) ∧ Below w.heap.size w w' := by
  by_cases hg : good win retry
  · have hn := newref_good win retry hg
    have HN := Aside0.mk hn
    clear hn
    go_enter Try.func4, Try.ntmps4
    go_wp2_with fail
    refine (new_good win retry w hg).mono ?_
    rintro e w1 ⟨g, b, rfl, hs1, hge, hbe, hb1⟩
    have B1 := Aside0.mk hb1
    clear hs1 hb1
    go_wp2_with fail
    refine (trickleref45_New.calls win retry _ _ _ _ _ _ w1 HN.out).mono ?_
    rintro e w2 ⟨v3, v4, rfl, ho3, ho4, hb2⟩
    obtain ⟨A3, c3, rfl⟩ := Kd.R_slice ho3
    obtain ⟨A4, c4, rfl⟩ := Kd.R_slice ho4
    clear ho3 ho4
    have B2 := Aside0.mk (below_step B1.out hb2)
    clear B1 hb2
    go_wp2_with fail
    refine (examples_any _).mono ?_
    rintro e w3 ⟨rfl, hb3⟩
    have B3 := Aside0.mk (below_step (by repeat (first | exact B2.out | apply below_alloc)) hb3)
    clear B2 hb3
    go_wp2
    go_ret
    exact ⟨rfl, B3.out⟩
  · have hn := newref_bad win retry hg
    have HN := Aside0.mk hn
    clear hn
    go_enter Try.func4, Try.ntmps4
    go_wp2_with fail
    refine (new_bad win retry w hg).mono ?_
    rintro e w1 ⟨rfl, rfl⟩
    go_wp2_with fail
    refine (trickleref45_New.calls win retry _ _ _ _ _ _ w1 HN.out).mono ?_
    rintro e w2 ⟨v3, v4, rfl, ho3, ho4, hb2⟩
    obtain ⟨A3, c3, rfl⟩ := Kd.R_slice ho3
    obtain ⟨A4, c4, rfl⟩ := Kd.R_slice ho4
    clear ho3 ho4
    have B2 := Aside0.mk hb2
    clear hb2
    go_wp2_with fail
    refine (examples_any _).mono ?_
    rintro e w3 ⟨rfl, hb3⟩
    have B3 := Aside0.mk (below_step (by repeat (first | exact B2.out | apply below_alloc)) hb3)
    clear B2 hb3
    go_wp2
    go_ret
    exact ⟨rfl, B3.out⟩
variable {H : Type} {enc : TypeId × Value → H}
theorem walk (W : World) (base : Nat) (v0 : Value) (d0 : DataW H) (p0 : List MemPlace) (v1 : Value) (d1 : DataW H) (p1 : List MemPlace) (o0 : Value.okWide Try.prog W .any base 3 v0) (h0 : DataW.Trod enc Try.prog W 0 (fun _ => true) true 3 v0 d0 p0) (o1 : Value.okWide Try.prog W .any base 2 v1) (h1 : DataW.Trod enc Try.prog W 0 (fun _ => true) true 2 v1 d1 p1) :
    Calls Try.prog 4 #[v0, v1] W fun e w' => e = .returned (.bool true) ∧ Below W.heap.size W w' := by
  obtain ⟨a, rfl⟩ := okWide_int Try.underlying3 o0
  obtain ⟨b, rfl⟩ := okWide_int Try.underlying2 o1
  exact calls a b W
end Go.Proofs.Ytjblfldgeemciaa.NewLaw
