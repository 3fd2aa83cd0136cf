/-
  SenderReceive: whatever the frame and the two numbers.
-/
import Derived.Test.YtjblfldgeemciaaOpen
set_option linter.unusedVariables false
namespace Go.Proofs.Ytjblfldgeemciaa.RecvLaw
open Go.RowKit Go.ChangeShapes Go.WideShapes Go.ChangeAt Go.Maps Go.Proofs.YtjblfldgeemciaaW.PrintWords Go.Proofs.YtjblfldgeemciaaW.PrintLast Go.Proofs.Ytjblfldgeemciaa.Pr Go.Proofs.Ytjblfldgeemciaa.Sd
theorem recvref (k s : Int) (xs : List Int) (a e : Int) : trickleref45_Receive.f k s xs a e = some (rcv k s xs.length a e) := by
  unfold trickleref45_Receive.f rcv
  by_cases h1 : k = 2
  · rw [if_pos h1]
    by_cases h2 : (xs.length : Int) > 0
    · rw [if_pos h2, if_neg (by omega)]
    · rw [if_neg h2]
      by_cases h3 : s ≤ a
      · rw [if_pos h3, if_neg (by omega)]
      · rw [if_neg h3]
        by_cases h4 : s > e
        · rw [if_pos h4, if_neg (by omega)]
        · rw [if_neg h4, if_pos (by omega)]
  · rw [if_neg h1, if_neg (by omega)]
theorem recvref' (k s : Int) (xs : List Int) (a e : Int) : trickleref45_Receive.f k s xs a e = some ((rcv k s xs.length a e).1, (rcv k s xs.length a e).2) := recvref k s xs a e
set_option maxHeartbeats 1000000 in
set_option maxRecDepth 100000 in
/-- A body that is longer than a hundred bytes. -/
theorem calls_long (k s a e : Int) (A : Option Addr) (n c : Nat) (w : World) (h : (n : Int) > 100) : Calls Try.prog 3 #[.agg #[.int .i64 k, .int .i64 s, .slice A n c], .int .i64 a, .int .i64 e] w fun e w' => e = .returned (.bool true) ∧ Below w.heap.size w w' := by
  go_enter Try.func3, Try.ntmps3
  go_wp2_with fail
  refine (new_good 3 5 _ (by unfold good; omega)).mono ?_
  rintro e w1 ⟨g, b, rfl, hs1, hge, hbe, hb1⟩
  have B1 := Aside0.mk (below_step (below_alloc (Below.refl _ _) _) hb1)
  have x2 : w1.cell? ⟨w.heap.size, 2, none⟩ = some (.slice A n c) := pw_cell_below hb1 (by rw [World.cell?_alloc_at _ _ _ _ (by simp)]; rfl)
  have c1 : decide ((100 : Int) < (n : Int)) = true := decide_eq_true h
  have c2 : decide (100 < n) = true := decide_eq_true (by omega)
  clear hs1 hb1
  go_wp2_with fail
  refine (examples_any _).mono ?_
  rintro e w3 ⟨rfl, hb3⟩
  have B3 := Aside0.mk (below_step (by repeat (first | exact B1.out | apply below_alloc)) hb3)
  clear B1 hb3 x2
  go_wp2
  go_ret
  exact ⟨rfl, B3.out⟩
set_option maxHeartbeats 1000000 in
set_option maxRecDepth 100000 in
theorem calls_short (k s a e : Int) (A : Option Addr) (c : Nat) (xs : List Int) (w : World) (h : ¬ (xs.length : Int) > 100) (hc : xs.length ≤ c) (hC : (Kd.int .u8).C w A xs.length xs) : Calls Try.prog 3 #[.agg #[.int .i64 k, .int .i64 s, .slice A xs.length c], .int .i64 a, .int .i64 e] w fun e w' => e = .returned (.bool true) ∧ Below w.heap.size w w' := by
  have HC := Aside0.mk hC
  clear hC
  go_enter Try.func3, Try.ntmps3
  go_wp2_with fail
  refine (new_good 3 5 _ (by unfold good; omega)).mono ?_
  rintro e1 w1 ⟨g, b, rfl, hs1, hge, hbe, hb1⟩
  have B1 := Aside0.mk (below_step (below_alloc (Below.refl _ _) _) hb1)
  have X1 := Aside0.mk (blk_below (blk_new w (.cells #[.int .i64 k, .int .i64 s, .slice A xs.length c] 24)) hb1)
  have x0 : w1.cell? ⟨w.heap.size, 0, none⟩ = some (.int .i64 k) := (blk_cell X1.out 0).trans rfl
  have x1 : w1.cell? ⟨w.heap.size, 1, none⟩ = some (.int .i64 s) := (blk_cell X1.out 1).trans rfl
  have x2 : w1.cell? ⟨w.heap.size, 2, none⟩ = some (.slice A xs.length c) := (blk_cell X1.out 2).trans rfl
  have hlt := blk_lt X1.out
  have c1 : decide ((100 : Int) < (xs.length : Int)) = false := decide_eq_false (by omega)
  have c2 : decide (100 < xs.length) = false := decide_eq_false (by omega)
  clear hs1 hb1
  have HL := Aside0.mk h
  have hws : w.heap.size ≤ w1.heap.size := by omega
  have XW := Aside0.mk (blk_alloc (blk_alloc X1.out (.cells #[.int .i64 k, .int .i64 s, .slice A xs.length c] 24)) (.cells #[] 5))
  have CW := Aside0.mk (Kd.C_below (Kd.C_below HC.out B1.out) (below_alloc (below_alloc (Below.refl _ _) (.cells #[.int .i64 k, .int .i64 s, .slice A xs.length c] 24)) (.cells #[] 5)))
  have BW := Aside0.mk (below_alloc (below_alloc B1.out (.cells #[.int .i64 k, .int .i64 s, .slice A xs.length c] 24)) (.cells #[] 5))
  have GW := Aside0.mk (blk_alloc (blk_new w1 (.cells #[.int .i64 k, .int .i64 s, .slice A xs.length c] 24)) (.cells #[] 5))
  have OW := Aside0.mk (Kd.R_of_own (h1 := fun _ => rfl) (own_lit (w1.alloc (.cells #[.int .i64 k, .int .i64 s, .slice A xs.length c] 24)) w.heap.size 5 .u8 [] (by simp; omega) (by simp)) (ok := fun _ => True) (fun _ _ => trivial))
  clear hge hbe h
  go_wp2_with (first | ((with_reducible refine gate_builtin (b := .append) (xs := #[.tmp 36, .tmp 38]) rfl ?_); at_builtin; refine Kd.R_append_rows (Kd.int .u8) (w0 := w) w.heap.size rfl (.tmp 36) (.tmp 38) 22 5 (.int .u8 0) 1 rfl Try.underlying22 info5 rfl (by decide) (by omega) (.slice (some ⟨w1.heap.size + 1, 0, none⟩) 0 0) [] xs _ _ _ (fun _ => True) (fun _ => False) rfl rfl ?aO ?aR (fun _ _ h => h) (fun _ h => h.elim) ?aF ?aB ?aS ?aL ?_) | fail)
  case aO =>
    have h := OW.out
    rw [show (w1.alloc (.cells #[.int .i64 k, .int .i64 s, .slice A xs.length c] 24)).heap.size = w1.heap.size + 1 by simp] at h
    exact h
  case aR => exact CW.out
  case aF => exact fun _ _ => trivial
  case aB => exact BW.out
  case aS =>
    simp
    omega
  case aL =>
    have := HL.out
    simp
    omega
  intro v5 w5 ho5 hb5 hg5 hat5
  obtain ⟨A5, c5, rfl, _, _⟩ := Kd.R_reads ho5
  have hn1 : some w.heap.size ≠ (Value.slice (some (⟨w1.heap.size + 1, 0, none⟩ : Addr)) 0 0).ownBlock := by
    intro e
    have : w.heap.size = w1.heap.size + 1 := by simpa [Value.ownBlock] using e
    omega
  have hn2 : some w1.heap.size ≠ (Value.slice (some (⟨w1.heap.size + 1, 0, none⟩ : Addr)) 0 0).ownBlock := by
    intro e
    simp [Value.ownBlock] at e
  have X5 := Aside0.mk (blk_grown XW.out hg5 hn1)
  have G5 := Aside0.mk (blk_grown GW.out hg5 hn2)
  have B5 := Aside0.mk hb5
  have g0 : w5.cell? ⟨w1.heap.size, 0, none⟩ = some (.int .i64 k) := (blk_cell G5.out 0).trans rfl
  have g1 : w5.cell? ⟨w1.heap.size, 1, none⟩ = some (.int .i64 s) := (blk_cell G5.out 1).trans rfl
  have g2 : w5.cell? ⟨w1.heap.size, 2, none⟩ = some (.slice A xs.length c) := (blk_cell G5.out 2).trans rfl
  have gf := blk_frozen G5.out 2
  have X6 := Aside0.mk (blk_far X5.out (p := ⟨w1.heap.size, 2, none⟩) (show w.heap.size ≠ w1.heap.size by omega) (.slice A5 ([] ++ xs).length c5))
  have B6 := Aside0.mk (below_set B5.out hws (v := .slice A5 ([] ++ xs).length c5) (j := 2))
  have C6 := Aside0.mk (Kd.C_below HC.out B6.out)
  clear ho5 hb5 hg5 hat5 hn1 hn2 XW CW BW GW OW x0 x1 x2
  go_wp2_with fail
  refine (receive_any _ k s A5 xs.length c5 a e _).mono ?_
  rintro e6 w6 ⟨rfl, hw6⟩
  have hb6 : Below (w5.setCell ⟨w1.heap.size, 2, none⟩ (.slice A5 ([] ++ xs).length c5)).heap.size (w5.setCell ⟨w1.heap.size, 2, none⟩ (.slice A5 ([] ++ xs).length c5)) w6 := by rw [hw6]; exact below_alloc (Below.refl _ _) _
  have X7 := Aside0.mk (blk_below X6.out hb6)
  have B7 := Aside0.mk (below_step B6.out hb6)
  have C7 := Aside0.mk (Kd.C_below C6.out hb6)
  have y0 : w6.cell? ⟨w.heap.size, 0, none⟩ = some (.int .i64 k) := (blk_cell X7.out 0).trans rfl
  have y1 : w6.cell? ⟨w.heap.size, 1, none⟩ = some (.int .i64 s) := (blk_cell X7.out 1).trans rfl
  have y2 : w6.cell? ⟨w.heap.size, 2, none⟩ = some (.slice A xs.length c) := (blk_cell X7.out 2).trans rfl
  clear hw6 hb6 g0 g1 g2 gf X5 G5 B5 X6 B6 C6
  obtain ⟨r1, r2, hr⟩ : ∃ r1 r2, rcv k s xs.length a e = (r1, r2) := ⟨_, _, rfl⟩
  have HRv := Aside0.mk (show trickleref45_Receive.f k s xs a e = some (r1, r2) by rw [recvref, hr])
  rw [hr]
  clear hr
  go_wp2_with fail
  refine (trickleref45_Receive.calls k s _ _ xs a e r1 r2 _ C7.out hc HRv.out).mono ?_
  rintro e7 w7 ⟨rfl, hb7⟩
  have B8 := Aside0.mk (below_step B7.out hb7)
  clear hb7 y0 y1 y2 X7 B7 C7
  go_wp2_with fail
  refine (examples_any _).mono ?_
  rintro e8 w8 ⟨rfl, hb8⟩
  have B9 := Aside0.mk (below_step B8.out hb8)
  clear hb8 B8
  go_wp2_with fail
  go_ret
  exact ⟨rfl, B9.out⟩
variable {H : Type} {enc : TypeId × Value → H}
theorem walk (W : World) (base : Nat) (v0 : Value) (d0 : DataW H) (p0 : List MemPlace) (v1 : Value) (d1 : DataW H) (p1 : List MemPlace) (v2 : Value) (d2 : DataW H) (p2 : List MemPlace) (o0 : Value.okWide Try.prog W .any base 24 v0) (h0 : DataW.Trod enc Try.prog W 0 (fun _ => true) true 24 v0 d0 p0) (o1 : Value.okWide Try.prog W .any base 2 v1) (h1 : DataW.Trod enc Try.prog W 0 (fun _ => true) true 2 v1 d1 p1) (o2 : Value.okWide Try.prog W .any base 2 v2) (h2 : DataW.Trod enc Try.prog W 0 (fun _ => true) true 2 v2 d2 p2) :
    Calls Try.prog 3 #[v0, v1, v2] W fun e w' => e = .returned (.bool true) ∧ Below W.heap.size W w' := by
  obtain ⟨k, s, A, c, xs, rfl, hc, hC, _⟩ := Open.open_frame o0 h0
  obtain ⟨a, rfl⟩ := okWide_int Try.underlying2 o1
  obtain ⟨e, rfl⟩ := okWide_int Try.underlying2 o2
  by_cases hl : (xs.length : Int) > 100
  · exact calls_long k s a e A xs.length c W hl
  · exact calls_short k s a e A c xs W hl hc hC
end Go.Proofs.Ytjblfldgeemciaa.RecvLaw
