/-
  SenderPoll: the other ways, and the walk.
-/
import Derived.Test.YtjblfldgeemciaaPollLaw
set_option linter.unusedVariables false
namespace Go.Proofs.Ytjblfldgeemciaa.PollOut
open Go.RowKit Go.ChangeShapes Go.WideShapes Go.ChangeAt Go.Maps Go.Proofs.YtjblfldgeemciaaW.PrintWords Go.Proofs.YtjblfldgeemciaaW.PrintLast Go.Proofs.Ytjblfldgeemciaa.Pr Go.Proofs.Ytjblfldgeemciaa.Sd Go.Proofs.Ytjblfldgeemciaa.CallPl Go.Proofs.Ytjblfldgeemciaa.PollLaw
set_option maxHeartbeats 1000000 in
set_option maxRecDepth 100000 in
theorem out0 (win retry : Int) (A : Option Addr) (ca : Nat) (xs : List S43) (w : World) (hg : ¬ good win retry) (hca : xs.length ≤ ca) (hC : k43.C w A xs.length xs) (hord : tricklelaw45_ordered.f (xs.length + 1) xs = some true) :
    Calls Try.prog 7 #[.int .i64 win, .int .i64 retry, .slice A xs.length ca] w fun e w' => e = .returned (.bool true) ∧ Below w.heap.size w w' := by
  have HC := Aside0.mk hC
  have HO := Aside0.mk hord
  clear hC hord
  go_enter Try.func7, Try.ntmps7
  go_wp2_with fail
  refine (examples_any _).mono ?_
  rintro e w1 ⟨rfl, hb1⟩
  have B1 := Aside0.mk hb1
  clear hb1
  go_wp2_with fail
  refine (tricklelaw45_ordered.calls _ A ca xs _ w1 (Kd.C_below HC.out B1.out) hca HO.out).mono ?_
  rintro e w2 ⟨rfl, hb2⟩
  have B2 := Aside0.mk (below_step B1.out hb2)
  clear hb2 B1
  have HN := Aside0.mk (newref_bad win retry hg)
  go_wp2_with fail
  refine (new_bad win retry w2 hg).mono ?_
  rintro e w3 ⟨rfl, rfl⟩
  clear hg
  go_wp2_with fail
  refine (trickleref45_New.calls win retry _ _ _ _ _ _ w3 HN.out).mono ?_
  rintro e w4 ⟨v3, v4, rfl, ho3, ho4, hb4⟩
  obtain ⟨A3, c3, rfl⟩ := Kd.R_slice ho3
  obtain ⟨A4, c4, rfl⟩ := Kd.R_slice ho4
  have B4 := Aside0.mk (below_step B2.out hb4)
  clear ho3 ho4 hb4 B2
  go_wp2
  go_ret
  exact ⟨rfl, by repeat (first | exact B4.out | apply below_alloc)⟩
set_option maxHeartbeats 1000000 in
set_option maxRecDepth 100000 in
theorem out1 (win retry : Int) (A : Option Addr) (ca : Nat) (xs : List S43) (w : World) (hca : xs.length ≤ ca) (hC : k43.C w A xs.length xs) (hord : tricklelaw45_ordered.f (xs.length + 1) xs = some false) :
    Calls Try.prog 7 #[.int .i64 win, .int .i64 retry, .slice A xs.length ca] w fun e w' => e = .returned (.bool true) ∧ Below w.heap.size w w' := by
  have HC := Aside0.mk hC
  have HO := Aside0.mk hord
  clear hC hord
  go_enter Try.func7, Try.ntmps7
  go_wp2_with fail
  refine (examples_any _).mono ?_
  rintro e w1 ⟨rfl, hb1⟩
  have B1 := Aside0.mk hb1
  clear hb1
  go_wp2_with fail
  refine (tricklelaw45_ordered.calls _ A ca xs _ w1 (Kd.C_below HC.out B1.out) hca HO.out).mono ?_
  rintro e w2 ⟨rfl, hb2⟩
  have B2 := Aside0.mk (below_step B1.out hb2)
  clear hb2 B1
  go_wp2_with fail
  refine (examples_any _).mono ?_
  rintro e w4 ⟨rfl, hb4⟩
  have B4 := Aside0.mk (below_step B2.out hb4)
  clear hb4 B2
  go_wp2
  go_ret
  exact ⟨rfl, B4.out⟩
variable {H : Type} {enc : TypeId × Value → H}
theorem walk (W : World) (base : Nat) (v0 : Value) (d0 : DataW H) (p0 : List MemPlace) (v1 : Value) (d1 : DataW H) (p1 : List MemPlace) (v2 : Value) (d2 : DataW H) (p2 : List MemPlace) (o0 : Value.okWide Try.prog W .any base 3 v0) (h0 : DataW.Trod enc Try.prog W 0 (fun _ => true) true 3 v0 d0 p0) (o1 : Value.okWide Try.prog W .any base 2 v1) (h1 : DataW.Trod enc Try.prog W 0 (fun _ => true) true 2 v1 d1 p1) (o2 : Value.okWide Try.prog W .any base 40 v2) (h2 : DataW.Trod enc Try.prog W 0 (fun _ => true) true 40 v2 d2 p2) :
    Calls Try.prog 7 #[v0, v1, v2] W fun e w' => e = .returned (.bool true) ∧ Below W.heap.size W w' := by
  obtain ⟨win, rfl⟩ := okWide_int Try.underlying3 o0
  obtain ⟨retry, rfl⟩ := okWide_int Try.underlying2 o1
  obtain ⟨A, ca, xs, rfl, hca, hC, hx⟩ := Open.open_calls o2 h2
  obtain ⟨B, hB, hT⟩ := ordered_tells xs hC.2.1
  cases B
  · exact out1 win retry A ca xs W hca hC hB
  · by_cases hg : good win retry
    · exact calls_in win retry A ca xs W hg hca hC hx hB (hT rfl).1 (hT rfl).2
    · exact out0 win retry A ca xs W hg hca hC hB
end Go.Proofs.Ytjblfldgeemciaa.PollOut
