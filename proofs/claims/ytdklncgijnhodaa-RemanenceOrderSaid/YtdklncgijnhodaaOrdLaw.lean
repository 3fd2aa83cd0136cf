/-
  RemanenceOrder: within an epoch neither bound of the time decreases, nor the width until a bound reaches the greatest time.
-/
import Derived.Test.YtdklncgijnhodaaClkLaw
set_option linter.unusedVariables false
namespace Go.Proofs.Ytdklncgijnhodaa.OrdLaw
open Go.Deep Go.RowKit Go.ChangeShapes Go.WideShapes Go.ChangeAt Go.Proofs.Ytdklncgijnhodaa.Pr Go.Proofs.Ytdklncgijnhodaa.Plain Go.Proofs.Ytdklncgijnhodaa.Open Go.Proofs.Ytdklncgijnhodaa.DoPl Go.Proofs.Ytdklncgijnhodaa.Do Go.Proofs.Ytdklncgijnhodaa.ClkLaw Go.Proofs.YtdklncgijnhodaaW.PrintWords Go.Proofs.YtdklncgijnhodaaW.PrintLast
variable {H : Type} {enc : TypeId × Value → H}
set_option maxHeartbeats 4000000 in
set_option maxRecDepth 100000 in
theorem long (F : Nat) (a : Option Addr) (cap : Nat) (xs : List S40) (w : World) (hl : xs.length > 100) :
    Calls Try.prog 8 #[.slice a xs.length cap] w fun e w' => e = .returned (.bool true) ∧ Below w.heap.size w w' := by
  have c1 : decide ((100 : Int) < (xs.length : Int)) = true := decide_eq_true (by omega)
  have c2 : decide (100 < xs.length) = true := decide_eq_true (by omega)
  clear hl
  go_enter Try.func8, Try.ntmps8
  go_wp2_with fail
  refine (tricklelaw09_examples.calls true _ rfl).mono ?_
  rintro e w1 ⟨rfl, hb1⟩
  have HB1 := Aside0.mk hb1
  clear hb1
  go_wp2_with fail
  refine (tricklelaw09_examples.calls true _ rfl).mono ?_
  rintro e w2 ⟨rfl, hb2⟩
  have HB2 := Aside0.mk hb2
  clear hb2
  go_wp2
  go_ret
  exact ⟨rfl, below_step HB1.out HB2.out⟩
set_option maxHeartbeats 4000000 in
set_option maxRecDepth 100000 in
theorem calls (a : Option Addr) (cap : Nat) (xs : List S40) (w : World) (hr : k40.C w a xs.length xs) (hl : ¬ xs.length > 100) :
    Calls Try.prog 8 #[.slice a xs.length cap] w fun e w' => e = .returned (.bool true) ∧ Below w.heap.size w w' := by
  have HR := Aside0.mk hr
  clear hr
  have c1 : decide ((100 : Int) < (xs.length : Int)) = false := decide_eq_false (by omega)
  have c2 : decide (100 < xs.length) = false := decide_eq_false (by omega)
  have HL := Aside0.mk hl
  clear hl
  go_enter Try.func8, Try.ntmps8
  go_wp2_with fail
  refine (tricklelaw09_examples.calls true _ rfl).mono ?_
  rintro e w1 ⟨rfl, hb1⟩
  have HB1 := Aside0.mk hb1
  clear hb1
  have hw1 : w.heap.size ≤ w1.heap.size := HB1.out.size
  have HI := Aside0.mk (show IsS36 w ((w1.alloc (.cells #[.int .i64 0, .int .i64 0, .int .i64 0] 36)).alloc (.cells #[.int .i64 0, .int .i64 0, .int .i64 0] 38)) w1.heap.size 0 0 0 from ⟨blk_alloc (blk_new _ _) _, HB1.out.size⟩)
  have HM := Aside0.mk (show ((w1.alloc (.cells #[.int .i64 0, .int .i64 0, .int .i64 0] 36)).alloc (.cells #[.int .i64 0, .int .i64 0, .int .i64 0] 38)).heap[w1.heap.size + 1]? = some (.cells #[.int .i64 0, .int .i64 0, .int .i64 0] 38 (0, 0)) by simpa using blk_new (w1.alloc (.cells #[.int .i64 0, .int .i64 0, .int .i64 0] 36)) (.cells #[.int .i64 0, .int .i64 0, .int .i64 0] 38))
  have HB := Aside0.mk (below_alloc (below_alloc HB1.out (.cells #[.int .i64 0, .int .i64 0, .int .i64 0] 36)) (.cells #[.int .i64 0, .int .i64 0, .int .i64 0] 38))
  clear HB1
  go_wp2
  have HNE := Aside0.mk (show w1.heap.size + 1 ≠ w1.heap.size by omega)
  obtain ⟨gm, hgm⟩ : ∃ gm, gm = w1.heap.size + 1 := ⟨_, rfl⟩
  have hgl : w.heap.size ≤ gm := by omega
  rw [← hgm] at HM HNE ⊢
  obtain ⟨g, hg⟩ : ∃ g, g = w1.heap.size := ⟨_, rfl⟩
  rw [← hg] at HI HNE ⊢
  clear hg hgm hw1
  go_loopw [20] (fun i wr => ∃ (k : Nat) (lo hi ep : Int), k ≤ xs.length ∧ i = .int .i64 k ∧ Aside0 (IsS36 w wr g lo hi ep) ∧ Aside0 (wr.heap[gm]? = some (.cells #[.int .i64 lo, .int .i64 hi, .int .i64 ep] 38 (0, 0))) ∧ Aside0 (Okay lo hi ep ∧ ep ≤ k) ∧ Aside0 (Below w.heap.size w wr)) (fun i _ => xs.length - (intOf i).toNat)
  case atStart => exact ⟨0, 0, 0, 0, Nat.zero_le _, rfl, HI, HM, ⟨by unfold Okay; omega, by omega⟩, HB⟩
  case round =>
    obtain ⟨k, lo, hi, ep, hk, rfl, HI', HM', HO, HB'⟩ := hrel
    clear HI HM HB
    have hlen : xs.length ≤ 100 := by have := HL.out; omega
    by_cases hlt : k < xs.length
    · obtain ⟨ad, had, h0, h1, h2, h3⟩ := at_T40 HR.out (k : Int) (by omega) (by omega)
      rw [Int.toNat_natCast] at h0 h1 h2 h3
      generalize rd_T40 xs (k : Int) = x at *
      obtain ⟨kd, tk, ⟨x1, x2⟩⟩ := x
      have r0 := pw_cell_below HB'.out h0
      have r1 := pw_cell_below HB'.out h1
      have r2 := pw_cell_below HB'.out h2
      have r3 := pw_cell_below HB'.out h3
      simp only at r0 r1 r2 r3
      clear h0 h1 h2 h3
      subst had
      go_wp2_with fail
      refine (remanence_Clock_Now.calls g lo hi ep _ _ _ _ _ w _ (is_below HI'.out (below_alloc (Below.refl _ _) _)) (below_alloc HB'.out _) rfl).mono ?_
      rintro e w2 ⟨rfl, hi2, hb2, hk2⟩
      have HI2 := Aside0.mk hi2
      have HB2 := Aside0.mk hb2
      have HM2 := Aside0.mk (keep_blk (blk_alloc HM'.out _) hk2 HNE.out)
      have HA2 := Aside0.mk (keep_blk (blk_new wr (.cells #[.int .i64 kd, .int .i64 tk, .int .i64 x1, .int .i64 x2] 40)) hk2 (by have := blk_lt HI'.out.1; omega))
      have HAG := Aside0.mk (show wr.heap.size ≠ g ∧ wr.heap.size ≠ gm by have := blk_lt HI'.out.1; have := blk_lt HM'.out; omega)
      generalize wr.heap.size = ba at *
      clear hi2 hb2 hk2 HI' HB' HM' r0 r1 r2 r3
      go_wp2_with fail
      refine (remanence_Clock_Epoch.calls g lo hi ep _ _ _ _ w _ HI2.out HB2.out rfl).mono ?_
      rintro e w3 ⟨rfl, hi3, hb3, hk3⟩
      have HM3 := Aside0.mk (keep_blk HM2.out hk3 HNE.out)
      have HA3 := Aside0.mk (keep_blk HA2.out hk3 HAG.out.1)
      have HI3 := Aside0.mk (is_below hi3 (below_alloc (Below.refl _ _) (.cells #[.int .i64 lo, .int .i64 hi] 25)))
      have HB3 := Aside0.mk (below_alloc hb3 (.cells #[.int .i64 lo, .int .i64 hi] 25))
      have HM4 := Aside0.mk (blk_alloc HM3.out (.cells #[.int .i64 lo, .int .i64 hi] 25))
      have HA4 := Aside0.mk (blk_alloc HA3.out (.cells #[.int .i64 lo, .int .i64 hi] 25))
      have HW4 := Aside0.mk (blk_new w3 (.cells #[.int .i64 lo, .int .i64 hi] 25))
      have HWG := Aside0.mk (show w3.heap.size ≠ g ∧ w3.heap.size ≠ gm by have := blk_lt hi3.1; have := blk_lt HM3.out; omega)
      clear hi3 hb3 hk3 HI2 HB2 HM2 HA2 HM3 HA3
      have q0 : (w3.alloc (.cells #[.int .i64 lo, .int .i64 hi] 25)).cell? ⟨ba, 0, none⟩ = some (.int .i64 kd) := (blk_cell HA4.out 0).trans rfl
      have q1 : (w3.alloc (.cells #[.int .i64 lo, .int .i64 hi] 25)).cell? ⟨ba, 1, none⟩ = some (.int .i64 tk) := (blk_cell HA4.out 1).trans rfl
      have q2 : (w3.alloc (.cells #[.int .i64 lo, .int .i64 hi] 25)).cell? ⟨ba, 2, none⟩ = some (.int .i64 x1) := (blk_cell HA4.out 2).trans rfl
      have q3 : (w3.alloc (.cells #[.int .i64 lo, .int .i64 hi] 25)).cell? ⟨ba, 3, none⟩ = some (.int .i64 x2) := (blk_cell HA4.out 3).trans rfl
      go_wp2_with fail
      refine (do_any w _ g gm lo hi ep kd tk x1 x2 HI3.out HM4.out hgl HB3.out HO.out.1).mono ?_
      rintro e w5 ⟨lo', hi', ep', rfl, hi5, hm5, hb5, hst, hk5⟩
      have HI5 := Aside0.mk hi5
      have HB5 := Aside0.mk hb5
      have HM5 := Aside0.mk hm5
      have HW5 := Aside0.mk (hk5 _ _ HW4.out HWG.out.1 HWG.out.2)
      generalize w3.heap.size = bw at *
      clear hi5 hb5 hm5 hk5 HI3 HB3 HM4 HA4 HW4 q0 q1 q2 q3
      go_wp2_with fail
      refine (remanence_Clock_Now.calls g lo' hi' ep' _ _ _ _ _ w _ HI5.out HB5.out rfl).mono ?_
      rintro e w6 ⟨rfl, hi6, hb6, hk6⟩
      have HI6 := Aside0.mk (is_below hi6 (below_alloc (Below.refl _ _) (.cells #[.int .i64 lo', .int .i64 hi'] 25)))
      have HB6 := Aside0.mk (below_alloc hb6 (.cells #[.int .i64 lo', .int .i64 hi'] 25))
      have HM6 := Aside0.mk (blk_alloc (keep_blk HM5.out hk6 HNE.out) (.cells #[.int .i64 lo', .int .i64 hi'] 25))
      have HW6 := Aside0.mk (blk_alloc (keep_blk HW5.out hk6 HWG.out.1) (.cells #[.int .i64 lo', .int .i64 hi'] 25))
      have HN6 := Aside0.mk (blk_new w6 (.cells #[.int .i64 lo', .int .i64 hi'] 25))
      have HNG := Aside0.mk (show w6.heap.size ≠ g by have := blk_lt hi6.1; omega)
      clear hi6 hb6 hk6 HI5 HB5 HM5 HW5
      have HO2 := Aside0.mk (show Okay lo' hi' ep' ∧ ep' ≤ ((k + 1 : Nat) : Int) by have h := HO.out; unfold Ste Okay at *; omega)
      have HS := Aside0.mk hst
      have d1 : decide (lo' < lo) = false := decide_eq_false (by have h := HS.out; unfold Ste at h; omega)
      have d2 : decide (hi' < lo') = false := decide_eq_false (by have h := HS.out; unfold Ste at h; omega)
      have d3 : decide (ep' < ep) = false := decide_eq_false (by have h := HS.out; unfold Ste at h; omega)
      have d4 : ep' = ep → decide (hi' < hi) = false := fun he => decide_eq_false (by have h := HS.out; unfold Ste at h; omega)
      have d5 : ep' = ep → hi' < 1099511627776 → decide (hi' - lo' < hi - lo) = false := fun he hm => decide_eq_false (by have h := HS.out; unfold Ste at h; omega)
      have b1 : 0 ≤ lo ∧ lo ≤ hi ∧ hi ≤ 1099511627776 := by have h := HO.out.1; unfold Okay at h; omega
      have b2 : 0 ≤ lo' ∧ lo' ≤ hi' ∧ hi' ≤ 1099511627776 := by have h := HO2.out.1; unfold Okay at h; omega
      obtain ⟨b11, b12, b13⟩ := b1
      obtain ⟨b21, b22, b23⟩ := b2
      have n0 : (w6.alloc (.cells #[.int .i64 lo', .int .i64 hi'] 25)).cell? ⟨w6.heap.size, 0, none⟩ = some (.int .i64 lo') := (blk_cell HN6.out 0).trans rfl
      have n1 : (w6.alloc (.cells #[.int .i64 lo', .int .i64 hi'] 25)).cell? ⟨w6.heap.size, 1, none⟩ = some (.int .i64 hi') := (blk_cell HN6.out 1).trans rfl
      have o0 : (w6.alloc (.cells #[.int .i64 lo', .int .i64 hi'] 25)).cell? ⟨bw, 0, none⟩ = some (.int .i64 lo) := (blk_cell HW6.out 0).trans rfl
      have o1 : (w6.alloc (.cells #[.int .i64 lo', .int .i64 hi'] 25)).cell? ⟨bw, 1, none⟩ = some (.int .i64 hi) := (blk_cell HW6.out 1).trans rfl
      clear hst HO
      go_wp2_with fail
      refine (remanence_Clock_Epoch.calls g lo' hi' ep' _ _ _ _ w _ HI6.out HB6.out rfl).mono ?_
      rintro e w7 ⟨rfl, hi7, hb7, hk7⟩
      have HI7 := Aside0.mk hi7
      have HB7 := Aside0.mk hb7
      have HM7 := Aside0.mk (keep_blk HM6.out hk7 HNE.out)
      have HW7 := Aside0.mk (keep_blk HW6.out hk7 HWG.out.1)
      have HN7 := Aside0.mk (keep_blk HN6.out hk7 HNG.out)
      generalize w6.heap.size = bn at *
      clear hi7 hb7 hk7 HI6 HB6 HM6 HW6 HN6 n0 n1 o0 o1
      go_wp2_with fail
      refine (remanence_Clock_Epoch.calls g lo' hi' ep' _ _ _ _ w _ HI7.out HB7.out rfl).mono ?_
      rintro e w8 ⟨rfl, hi8, hb8, hk8⟩
      have HI9 := Aside0.mk hi8
      have HB9 := Aside0.mk hb8
      have HM9 := Aside0.mk (keep_blk HM7.out hk8 HNE.out)
      have hW8 := keep_blk HW7.out hk8 HWG.out.1
      have hN8 := keep_blk HN7.out hk8 HNG.out
      have n0 : w8.cell? ⟨bn, 0, none⟩ = some (.int .i64 lo') := (blk_cell hN8 0).trans rfl
      have n1 : w8.cell? ⟨bn, 1, none⟩ = some (.int .i64 hi') := (blk_cell hN8 1).trans rfl
      have o0 : w8.cell? ⟨bw, 0, none⟩ = some (.int .i64 lo) := (blk_cell hW8 0).trans rfl
      have o1 : w8.cell? ⟨bw, 1, none⟩ = some (.int .i64 hi) := (blk_cell hW8 1).trans rfl
      clear hi8 hb8 hk8 HI7 HB7 HM7 HW7 HN7 hW8 hN8
      by_cases he : ep' = ep
      · have f4 := d4 he
        subst he
        by_cases hm : hi' < 1099511627776
        · have f5 := d5 rfl hm
          have f6 : decide (hi' < 1099511627776) = true := decide_eq_true hm
          clear d4 d5
          go_wp2
          go_roundw
          case rel => exact ⟨k + 1, lo', hi', ep', by omega, by go_num, HI9, HM9, HO2, HB9⟩
          case measure => simp [intOf]; omega
        · have f6 : decide (hi' < 1099511627776) = false := decide_eq_false hm
          clear d4 d5
          go_wp2
          go_roundw
          case rel => exact ⟨k + 1, lo', hi', ep', by omega, by go_num, HI9, HM9, HO2, HB9⟩
          case measure => simp [intOf]; omega
      · have f4 : decide (ep' = ep) = false := decide_eq_false he
        clear d4 d5
        go_wp2
        go_roundw
        case rel => exact ⟨k + 1, lo', hi', ep', by omega, by go_num, HI9, HM9, HO2, HB9⟩
        case measure => simp [intOf]; omega
    · go_wp2
      go_ret
      exact ⟨rfl, HB'.out⟩
theorem walk (W : World) (base : Nat) (v0 : Value) (d0 : DataW H) (p0 : List MemPlace) (o0 : Value.okWide Try.prog W .any base 34 v0) (h0 : DataW.Trod enc Try.prog W 0 (fun _ => true) true 34 v0 d0 p0) :
    Calls Try.prog 8 #[v0] W fun e w' => e = .returned (.bool true) ∧ Below W.heap.size W w' := by
  obtain ⟨a, cap, xs, rfl, _, hC, _⟩ := open_acts o0 h0
  by_cases hl : xs.length > 100
  · exact long 0 a cap xs W hl
  · exact calls a cap xs W hC hl
end Go.Proofs.Ytdklncgijnhodaa.OrdLaw
