/-
  RemanenceSteady: a clock that is only run, by at most 100 numbers of ticks, tells exactly their sum, in epoch 0.
  Conditions: none beyond the statement's own.
-/
import Derived.Test.YtdklncgijnhodaaPlain
import Derived.Test.YtdklncgijnhodaaOpen
import Derived.Outline
namespace Go.Proofs.Ytdklncgijnhodaa.Steady
open Go.RowKit Go.ChangeShapes Go.WideShapes Go.ChangeAt Go.Proofs.Ytdklncgijnhodaa.Pr Go.Proofs.Ytdklncgijnhodaa.Plain Go.Proofs.Ytdklncgijnhodaa.Open Go.Proofs.YtdklncgijnhodaaW.PrintWords Go.Proofs.YtdklncgijnhodaaW.PrintLast
variable {H : Type} {enc : TypeId × Value → H}
/-- The sum of the first k numbers. -/
def sm (xs : List Int) (k : Nat) : Int := (xs.take k).sum
theorem sm_succ (xs : List Int) (k : Nat) (h : k < xs.length) : sm xs (k + 1) = sm xs k + xs[k] := by
  unfold sm
  rw [List.take_succ_eq_append_getElem h, List.sum_append]
  simp
theorem sm_bd (xs : List Int) (hx : ∀ x ∈ xs, 0 ≤ x ∧ x ≤ 4294967295) (k : Nat) (h : k ≤ xs.length) : 0 ≤ sm xs k ∧ sm xs k ≤ k * 4294967295 := by
  induction k with
  | zero => simp [sm]
  | succ k ih =>
    have h1 := ih (by omega)
    have h2 := hx _ (List.getElem_mem (show k < xs.length by omega))
    rw [sm_succ xs k (by omega)]
    omega
theorem run_tells (s x : Int) (hs : 0 ≤ s) (hx : 0 ≤ x) (h : s + x ≤ 1099511627776) : remanence_Clock_Run.f s s 0 x = some (0, s + x, s + x, 0) := by
  unfold remanence_Clock_Run.f remanence_tick.f interval_At.f remanence_Clock_Off.f
  rw [if_pos hx, decide_eq_true (by omega)]
  simp -implicitDefEqProofs only [Option.bind_some, if_true]
  have e : mx 0 (mn x 1099511627776) = x := by unfold mx mn; (repeat' split) <;> omega
  rw [e, add_tells]
  have v1 : vld s s = true := by unfold vld; exact decide_eq_true (by omega)
  have v2 : vld x x = true := by unfold vld; exact decide_eq_true (by omega)
  have c : clamp (s + x) = s + x := by unfold clamp; (repeat' split) <;> omega
  rw [if_pos ⟨v1, v2⟩, c]
  simp
set_option maxHeartbeats 4000000 in
set_option maxRecDepth 100000 in
theorem calls (a : Option Addr) (cap : Nat) (xs : List Int) (w : World) (hr : Kd.C (Kd.int .u32) w a xs.length xs) (hx : ∀ x ∈ xs, 0 ≤ x ∧ x ≤ 4294967295) :
    Calls Try.prog 7 #[.slice a xs.length cap] w fun e w' => e = .returned (.bool true) ∧ Below w.heap.size w w' := by
  have HR := Aside0.mk hr
  have HX := Aside0.mk hx
  clear hr hx
  by_cases hl : (xs.length : Int) > 100
  · have c1 : decide ((100 : Int) < (xs.length : Int)) = true := decide_eq_true hl
    have c2 : decide (100 < xs.length) = true := decide_eq_true (by omega)
    clear hl
    go_enter Try.func7, Try.ntmps7
    go_wp2_with fail
    refine (tricklelaw09_examples.calls true _ rfl).mono ?_
    rintro e w1 ⟨rfl, hb1⟩
    have HB1 := Aside0.mk hb1
    clear hb1
    go_wp2_with fail
    refine (tricklelaw09_examples.calls true _ rfl).mono ?_
    rintro e w2 ⟨rfl, hb2⟩
    have HB2 := Aside0.mk hb2
    clear hb2
    go_wp2
    go_ret
    exact ⟨rfl, below_step HB1.out HB2.out⟩
  · have c1 : decide ((100 : Int) < (xs.length : Int)) = false := decide_eq_false hl
    have c2 : decide (100 < xs.length) = false := decide_eq_false (by omega)
    have HL := Aside0.mk hl
    clear hl
    go_enter Try.func7, Try.ntmps7
    go_wp2_with fail
    refine (tricklelaw09_examples.calls true _ rfl).mono ?_
    rintro e w1 ⟨rfl, hb1⟩
    have HB1 := Aside0.mk hb1
    clear hb1
    go_wp2
    have I1 : IsS36 w (w1.alloc (.cells #[.int .i64 0, .int .i64 0, .int .i64 0] 36)) w1.heap.size 0 0 0 := ⟨blk_new _ _, HB1.out.size⟩
    have HI := Aside0.mk I1
    have HB := Aside0.mk (below_alloc HB1.out (.cells #[.int .i64 0, .int .i64 0, .int .i64 0] 36))
    clear I1
    go_loopw [4, 17] (fun s i wr => ∃ k : Nat, k ≤ xs.length ∧ i = .int .i64 k ∧ s = .int .i64 (sm xs k) ∧ Aside0 (IsS36 w wr w1.heap.size (sm xs k) (sm xs k) 0) ∧ Aside0 (Below w.heap.size w wr)) (fun _ i _ => xs.length - (intOf i).toNat)
    case atStart => exact ⟨0, Nat.zero_le _, rfl, rfl, HI, HB⟩
    case round =>
      obtain ⟨k, hk, rfl, rfl, HI', HB'⟩ := hrel
      have hlen : xs.length ≤ 100 := by have := HL.out; omega
      by_cases hlt : k < xs.length
      · obtain ⟨_, _, hc⟩ := HR.out
        obtain ⟨ad, ha, hc⟩ := hc (by omega)
        obtain ⟨c, _, hK, hcell⟩ := hc k _ (List.getElem?_eq_getElem hlt)
        have hK' : c = [.int .u32 xs[k]] := hK
        subst hK'
        have hcw : w.cell? (ad.add k) = some (.int .u32 xs[k]) := by
          have := hcell 0 _ rfl
          have e1 : k * (Kd.int IntKind.u32).sz + 0 = k := by show k * 1 + 0 = k; omega
          rwa [e1] at this
        have hcr : wr.cell? (ad.add k) = some (.int .u32 xs[k]) := pw_cell_below HB'.out hcw
        have hb := HX.out _ (List.getElem_mem hlt)
        have hs := sm_bd xs HX.out k hk
        have HS := Aside0.mk (sm_succ xs k hlt)
        have HS2 := Aside0.mk (sm_bd xs HX.out (k + 1) hlt)
        generalize hx : xs[k] = x at *
        generalize hsm : sm xs k = s at *
        clear hx hsm hcell hc hcw hK
        subst ha
        have hb0 := hb.1
        have hb1 := hb.2
        have hs0 := hs.1
        have hs1 := hs.2
        have hs2 : s + x ≤ 1099511627776 := by omega
        have HRun := Aside0.mk (run_tells s x hs0 hb0 hs2)
        clear hb hs
        go_wp2_with fail
        refine (remanence_Clock_Run.calls _ _ _ _ _ _ _ _ _ w _ HI'.out HB'.out HRun.out).mono ?_
        rintro e w2 ⟨rfl, hi2, hb2, _⟩
        have HI2 := Aside0.mk hi2
        have HB2 := Aside0.mk hb2
        clear hi2 hb2 HI' HB' hcr
        go_wp2_with fail
        refine (remanence_Clock_Now.calls _ _ _ _ _ _ _ _ _ w _ HI2.out HB2.out rfl).mono ?_
        rintro e w3 ⟨rfl, hi3, hb3, _⟩
        have HI3 := Aside0.mk hi3
        have HB3 := Aside0.mk hb3
        clear hi3 hb3 HI2 HB2
        go_wp2_with fail
        refine (remanence_Clock_Epoch.calls _ _ _ _ _ _ _ _ w _ HI3.out HB3.out rfl).mono ?_
        rintro e w4 ⟨rfl, hi4, hb4, _⟩
        have HI4 := Aside0.mk hi4
        have HB4 := Aside0.mk hb4
        clear hi4 hb4 HI3 HB3
        go_wp2
        go_roundw
        case rel => exact ⟨k + 1, by omega, by go_num, by rw [HS.out], by rw [HS.out]; exact HI4, HB4⟩
        case measure => simp [intOf]; omega
      · go_wp2
        go_ret
        exact ⟨rfl, HB'.out⟩
theorem walk (W : World) (base : Nat) (v0 : Value) (d0 : DataW H) (p0 : List MemPlace) (o0 : Value.okWide Try.prog W .any base 58 v0) (h0 : DataW.Trod enc Try.prog W 0 (fun _ => true) true 58 v0 d0 p0) :
    Calls Try.prog 7 #[v0] W fun e w' => e = .returned (.bool true) ∧ Below W.heap.size W w' := by
  obtain ⟨a, cap, xs, rfl, _, hC, hg⟩ := rows_of (Kd.int .u32) (fun x => (Lit.int .u32 x).wf = true) Try.underlying58 (by kernel_rfl) (fun fuel cs y hl h => by
    match cs, hl with
    | [v], _ =>
      obtain ⟨n, rfl, hw⟩ := int_leaf Try.underlying50 h
      exact ⟨n, rfl, hw⟩) o0 h0
  exact calls a cap xs W hC (fun x hx => by
    have := hg x hx
    simp [Lit.wf, IntKind.min, IntKind.max, IntKind.signed, IntKind.bits] at this
    omega)
end Go.Proofs.Ytdklncgijnhodaa.Steady
