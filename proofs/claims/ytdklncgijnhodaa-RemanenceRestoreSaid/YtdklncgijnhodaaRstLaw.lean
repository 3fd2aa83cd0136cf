/-
  RemanenceRestore: a restored clock behaves like the one with its time and epoch; Restore refuses what is invalid.
-/
import Derived.Test.YtdklncgijnhodaaClkLaw
import Derived.Deep.RegionHeld3
import Derived.Outline
set_option linter.unusedVariables false
namespace Go.Proofs.Ytdklncgijnhodaa.RstLaw
open Go.Deep Go.RowKit Go.ChangeShapes Go.WideShapes Go.ChangeAt Go.Proofs.Ytdklncgijnhodaa.Pr Go.Proofs.Ytdklncgijnhodaa.Plain Go.Proofs.Ytdklncgijnhodaa.Open Go.Proofs.Ytdklncgijnhodaa.DoPl Go.Proofs.Ytdklncgijnhodaa.Do Go.Proofs.Ytdklncgijnhodaa.ClkLaw Go.Proofs.YtdklncgijnhodaaW.PrintWords Go.Proofs.YtdklncgijnhodaaW.PrintLast
variable {H : Type} {enc : TypeId × Value → H}
def RPost (x y ep : Int) (w : World) (e : Ending) (w' : World) : Prop := ∃ g, e = .returned (.tuple #[.pointer (some ⟨g, 0, none⟩), .int .i64 0]) ∧ w'.heap[g]? = some (.cells #[.int .i64 x, .int .i64 y, .int .i64 ep] 36 (0, 0)) ∧ w.heap.size ≤ g ∧ Below w.heap.size w w'
set_option maxHeartbeats 1000000 in
set_option maxRecDepth 100000 in
theorem restore_good (x y ep : Int) (w : World) (hv : vld x y = true) (h0 : 0 ≤ ep) (h1 : ep ≤ 2147483647) :
    Calls Try.prog 23 #[.agg #[.int .i64 x, .int .i64 y], .int .i64 ep] w (RPost x y ep w) := by
  have c1 : decide (ep < 0) = false := decide_eq_false (by omega)
  have c2 : decide ((2147483647 : Int) < ep) = false := decide_eq_false (by omega)
  have HV := Aside0.mk (show interval_Valid.f x y = some true by rw [valid_tells, hv])
  clear hv h0 h1
  go_enter Try.func23, Try.ntmps23
  go_wp2_with fail
  refine (interval_Valid.calls x y true _ HV.out).mono ?_
  rintro e w1 ⟨rfl, hb1⟩
  have BK := blk_below (blk_new w (.cells #[.int .i64 x, .int .i64 y] 25)) hb1
  have k0 : w1.cell? ⟨w.heap.size, 0, none⟩ = some (.int .i64 x) := (blk_cell BK 0).trans rfl
  have k1 : w1.cell? ⟨w.heap.size, 1, none⟩ = some (.int .i64 y) := (blk_cell BK 1).trans rfl
  have HB := Aside0.mk (below_step (below_alloc (Below.refl w.heap.size w) _) hb1)
  clear BK hb1
  go_wp2
  go_ret2
  exact ⟨w1.heap.size, rfl, blk_new w1 _, HB.out.size, below_alloc HB.out _⟩
set_option maxHeartbeats 1000000 in
set_option maxRecDepth 100000 in
theorem restore_bad (x y ep : Int) (w : World) (h : ¬ (vld x y = true ∧ 0 ≤ ep ∧ ep ≤ 2147483647)) :
    Calls Try.prog 23 #[.agg #[.int .i64 x, .int .i64 y], .int .i64 ep] w fun e w' => e = .returned (.tuple #[.pointer none, .int .i64 1]) ∧ Below w.heap.size w w' := by
  cases hv : vld x y
  · have HV := Aside0.mk (show interval_Valid.f x y = some false by rw [valid_tells, hv])
    clear hv h
    go_enter Try.func23, Try.ntmps23
    go_wp2_with fail
    refine (interval_Valid.calls x y false _ HV.out).mono ?_
    rintro e w1 ⟨rfl, hb1⟩
    have HB := Aside0.mk (below_step (below_alloc (Below.refl w.heap.size w) _) hb1)
    clear hb1
    go_wp2
    go_ret2
    exact ⟨rfl, HB.out⟩
  · have HV := Aside0.mk (show interval_Valid.f x y = some true by rw [valid_tells, hv])
    by_cases h0 : ep < 0
    · have c1 : decide (ep < 0) = true := decide_eq_true h0
      clear hv h h0
      go_enter Try.func23, Try.ntmps23
      go_wp2_with fail
      refine (interval_Valid.calls x y true _ HV.out).mono ?_
      rintro e w1 ⟨rfl, hb1⟩
      have HB := Aside0.mk (below_step (below_alloc (Below.refl w.heap.size w) _) hb1)
      clear hb1
      go_wp2
      go_ret2
      exact ⟨rfl, HB.out⟩
    · have c1 : decide (ep < 0) = false := decide_eq_false h0
      have c2 : decide ((2147483647 : Int) < ep) = true := decide_eq_true (by by_cases h2 : 2147483647 < ep; exact h2; exact absurd ⟨hv, by omega, by omega⟩ h)
      clear hv h h0
      go_enter Try.func23, Try.ntmps23
      go_wp2_with fail
      refine (interval_Valid.calls x y true _ HV.out).mono ?_
      rintro e w1 ⟨rfl, hb1⟩
      have HB := Aside0.mk (below_step (below_alloc (Below.refl w.heap.size w) _) hb1)
      clear hb1
      go_wp2
      go_ret2
      exact ⟨rfl, HB.out⟩
set_option maxHeartbeats 4000000 in
set_option maxRecDepth 100000 in
theorem long (x y ep : Int) (a : Option Addr) (cap : Nat) (xs : List S40) (w : World) (hl : xs.length > 60) :
    Calls Try.prog 9 #[.agg #[.int .i64 x, .int .i64 y], .int .i64 ep, .slice a xs.length cap] w fun e w' => e = .returned (.bool true) ∧ Below w.heap.size w w' := by
  have c1 : decide ((60 : Int) < (xs.length : Int)) = true := decide_eq_true (by omega)
  have c2 : decide (60 < xs.length) = true := decide_eq_true (by omega)
  clear hl
  go_enter Try.func9, Try.ntmps9
  go_wp2_with fail
  refine (tricklelaw09_examples.calls true _ rfl).mono ?_
  rintro e w1 ⟨rfl, hb1⟩
  have HB1 := Aside0.mk (below_step (below_alloc (Below.refl w.heap.size w) _) hb1)
  clear hb1
  go_wp2_with fail
  refine (tricklelaw09_examples.calls true _ rfl).mono ?_
  rintro e w2 ⟨rfl, hb2⟩
  have HB2 := Aside0.mk hb2
  clear hb2
  go_wp2
  go_ret
  exact ⟨rfl, below_step HB1.out HB2.out⟩
set_option maxHeartbeats 4000000 in
set_option maxRecDepth 100000 in
theorem bad (x y ep : Int) (a : Option Addr) (cap : Nat) (xs : List S40) (w : World) (hl : ¬ xs.length > 60) (h : ¬ (vld x y = true ∧ 0 ≤ ep ∧ ep ≤ 2147483647)) :
    Calls Try.prog 9 #[.agg #[.int .i64 x, .int .i64 y], .int .i64 ep, .slice a xs.length cap] w fun e w' => e = .returned (.bool true) ∧ Below w.heap.size w w' := by
  have c1 : decide ((60 : Int) < (xs.length : Int)) = false := decide_eq_false (by omega)
  have c2 : decide (60 < xs.length) = false := decide_eq_false (by omega)
  have HH := Aside0.mk h
  obtain ⟨v, hv⟩ : ∃ v, v = vld x y := ⟨_, rfl⟩
  have HV := Aside0.mk (show trickleref05_Valid.f x y = some v by rw [valid5_tells, hv])
  have hq : v = false ∨ v = true ∧ (ep < 0 ∨ ¬ ep < 0 ∧ 2147483647 < ep) := by
    cases v
    · exact .inl rfl
    · refine .inr ⟨rfl, ?_⟩
      by_cases h0 : ep < 0
      · exact .inl h0
      · exact .inr ⟨h0, by by_cases h2 : 2147483647 < ep; exact h2; exact absurd ⟨hv.symm, by omega, by omega⟩ h⟩
  clear hl h hv
  go_enter Try.func9, Try.ntmps9
  go_wp2_with fail
  refine (tricklelaw09_examples.calls true _ rfl).mono ?_
  rintro e w1 ⟨rfl, hb1⟩
  have BK := blk_below (blk_new w (.cells #[.int .i64 x, .int .i64 y] 25)) hb1
  have k0 : w1.cell? ⟨w.heap.size, 0, none⟩ = some (.int .i64 x) := (blk_cell BK 0).trans rfl
  have k1 : w1.cell? ⟨w.heap.size, 1, none⟩ = some (.int .i64 y) := (blk_cell BK 1).trans rfl
  have HK := Aside0.mk BK
  have HB1 := Aside0.mk (below_step (below_alloc (Below.refl w.heap.size w) _) hb1)
  clear BK hb1
  go_wp2_with fail
  refine (restore_bad x y ep _ HH.out).mono ?_
  rintro e w2 ⟨rfl, hb2⟩
  have q0 := pw_cell_below hb2 k0
  have q1 := pw_cell_below hb2 k1
  have HB2 := Aside0.mk (below_step HB1.out hb2)
  clear k0 k1 HK HB1 hb2
  go_wp2_with fail
  refine (trickleref05_Valid.calls x y v _ HV.out).mono ?_
  rintro e w3 ⟨rfl, hb3⟩
  have HB3 := Aside0.mk (below_step HB2.out hb3)
  clear q0 q1 HB2 hb3
  rcases hq with rfl | ⟨rfl, h0 | ⟨h0, h1⟩⟩
  · go_wp2
    go_ret
    exact ⟨rfl, HB3.out⟩
  · have d1 : decide (ep < 0) = true := decide_eq_true h0
    clear h0
    go_wp2
    go_ret
    exact ⟨rfl, HB3.out⟩
  · have d1 : decide (ep < 0) = false := decide_eq_false (by omega)
    have d2 : decide ((2147483647 : Int) < ep) = true := decide_eq_true h1
    clear h0 h1
    go_wp2
    go_ret
    exact ⟨rfl, HB3.out⟩
set_option maxHeartbeats 8000000 in
set_option maxRecDepth 100000 in
theorem good (x y ep : Int) (a : Option Addr) (cap : Nat) (xs : List S40) (w : World) (hr : k40.C w a xs.length xs) (hl : ¬ xs.length > 60) (hv : vld x y = true) (h0 : 0 ≤ ep) (h1 : ep ≤ 2147483647) :
    Calls Try.prog 9 #[.agg #[.int .i64 x, .int .i64 y], .int .i64 ep, .slice a xs.length cap] w fun e w' => e = .returned (.bool true) ∧ Below w.heap.size w w' := by
  have c1 : decide ((60 : Int) < (xs.length : Int)) = false := decide_eq_false (by omega)
  have c2 : decide (60 < xs.length) = false := decide_eq_false (by omega)
  have HL := Aside0.mk hl
  have HR := Aside0.mk hr
  have HV := Aside0.mk (show trickleref05_Valid.f x y = some true by rw [valid5_tells, hv])
  have HVV := Aside0.mk hv
  have HE := Aside0.mk (And.intro h0 h1)
  have d1 : decide (ep < 0) = false := decide_eq_false (by omega)
  have d2 : decide ((2147483647 : Int) < ep) = false := decide_eq_false (by omega)
  clear hl hr hv h0 h1
  go_enter Try.func9, Try.ntmps9
  go_wp2_with fail
  refine (tricklelaw09_examples.calls true _ rfl).mono ?_
  rintro e w1 ⟨rfl, hb1⟩
  have BK := blk_below (blk_new w (.cells #[.int .i64 x, .int .i64 y] 25)) hb1
  have k0 : w1.cell? ⟨w.heap.size, 0, none⟩ = some (.int .i64 x) := (blk_cell BK 0).trans rfl
  have k1 : w1.cell? ⟨w.heap.size, 1, none⟩ = some (.int .i64 y) := (blk_cell BK 1).trans rfl
  have HK := Aside0.mk BK
  have HB1 := Aside0.mk (below_step (below_alloc (Below.refl w.heap.size w) _) hb1)
  clear BK hb1
  go_wp2_with fail
  refine (restore_good x y ep _ HVV.out HE.out.1 HE.out.2).mono ?_
  rintro e w2 ⟨g, rfl, hg2, hge, hb2⟩
  have q0 := pw_cell_below hb2 k0
  have q1 := pw_cell_below hb2 k1
  have HK2 := Aside0.mk (blk_below HK.out hb2)
  have HG2 := Aside0.mk hg2
  have hge' : w.heap.size ≤ g := Nat.le_trans HB1.out.size hge
  have HB2 := Aside0.mk (below_step HB1.out hb2)
  clear k0 k1 HK HB1 hb2 hg2 hge
  go_wp2_with fail
  refine (trickleref05_Valid.calls x y true _ HV.out).mono ?_
  rintro e w3 ⟨rfl, hb3⟩
  have HB3 := Aside0.mk (below_step HB2.out hb3)
  have HG3 := Aside0.mk (blk_below HG2.out hb3)
  have q0 := pw_cell_below hb3 q0
  have q1 := pw_cell_below hb3 q1
  have hlt3 := blk_lt HG3.out
  clear HB2 hb3 HG2 HK2
  by_cases hbig : (1073741824 : Int) < ep
  · have d3 : decide ((1073741824 : Int) < ep) = true := decide_eq_true hbig
    go_wp2
    go_ret
    exact ⟨rfl, HB3.out⟩
  have d3 : decide ((1073741824 : Int) < ep) = false := decide_eq_false hbig
  have HO0 := Aside0.mk (show Okay x y ep by have h1 := HVV.out; have h2 := HE.out.1; unfold vld at h1; have h3 := of_decide_eq_true h1; unfold Okay; omega)
  have HI := Aside0.mk (show IsS36 w (w3.alloc (.cells #[.int .i64 x, .int .i64 y, .int .i64 ep] 38)) g x y ep from ⟨blk_alloc HG3.out _, hge'⟩)
  have HM := Aside0.mk (blk_new w3 (.cells #[.int .i64 x, .int .i64 y, .int .i64 ep] 38))
  have HB := Aside0.mk (below_alloc HB3.out (.cells #[.int .i64 x, .int .i64 y, .int .i64 ep] 38))
  have hgl : w.heap.size ≤ w3.heap.size := HB3.out.size
  have HNE := Aside0.mk (show w3.heap.size ≠ g by omega)
  have HBG := Aside0.mk (show ep ≤ 1073741824 by omega)
  clear HG3 HB3 hbig
  go_wp2
  clear q0 q1
  obtain ⟨gm, hgm⟩ : ∃ gm, gm = w3.heap.size := ⟨_, rfl⟩
  rw [← hgm] at HM HNE hgl ⊢
  clear hgm hlt3
  go_loopw [64] (fun i wr => ∃ (k : Nat) (lo hi e2 : Int), k ≤ xs.length ∧ i = .int .i64 k ∧ Aside0 (IsS36 w wr g lo hi e2) ∧ Aside0 (wr.heap[gm]? = some (.cells #[.int .i64 lo, .int .i64 hi, .int .i64 e2] 38 (0, 0))) ∧ Aside0 (Okay lo hi e2 ∧ e2 ≤ ep + k) ∧ Aside0 (Below w.heap.size w wr)) (fun i _ => xs.length - (intOf i).toNat)
  case atStart => exact ⟨0, x, y, ep, Nat.zero_le _, rfl, HI, HM, ⟨HO0.out, by omega⟩, HB⟩
  case round =>
    obtain ⟨k, lo, hi, e2, hk, rfl, HI', HM', HO, HB'⟩ := hrel
    clear HI HM HB
    have hlen : xs.length ≤ 60 := by have := HL.out; omega
    by_cases hlt : k < xs.length
    · obtain ⟨ad, had, h0, h1, h2, h3⟩ := at_T40 HR.out (k : Int) (by omega) (by omega)
      rw [Int.toNat_natCast] at h0 h1 h2 h3
      generalize rd_T40 xs (k : Int) = z at *
      obtain ⟨kd, tk, ⟨x1, x2⟩⟩ := z
      have r0 := pw_cell_below HB'.out h0
      have r1 := pw_cell_below HB'.out h1
      have r2 := pw_cell_below HB'.out h2
      have r3 := pw_cell_below HB'.out h3
      simp only at r0 r1 r2 r3
      clear h0 h1 h2 h3
      subst had
      go_wp2_with fail
      refine (do_any w _ g gm lo hi e2 kd tk x1 x2 (is_below HI'.out (below_alloc (Below.refl _ _) _)) (blk_alloc HM'.out _) hgl (below_alloc HB'.out _) HO.out.1).mono ?_
      rintro e w5 ⟨lo', hi', ep', rfl, hi2, hm2, hb2, hst, _⟩
      have HI2 := Aside0.mk hi2
      have HM2 := Aside0.mk hm2
      have HB2 := Aside0.mk hb2
      have HO2 := Aside0.mk (show Okay lo' hi' ep' ∧ ep' ≤ ep + ((k + 1 : Nat) : Int) by have h := HO.out; have h2 := HBG.out; unfold Ste Okay at *; omega)
      clear hi2 hm2 hb2 hst HI' HM' HB' HO r0 r1 r2 r3
      go_wp2
      go_roundw
      case rel => exact ⟨k + 1, lo', hi', ep', by omega, by go_num, HI2, HM2, HO2, HB2⟩
      case measure => simp [intOf]; omega
    · have s4 := c3 (w := wr.drew) HM'.out
      have hu38 := Try.underlying38
      have hu25 := Try.underlying25
      go_wp2_with fail
      go_region_held3 (fun w' => w'.cell? ⟨gm, 0, none⟩ = some (.int .i64 lo) ∧ w'.cell? ⟨gm, 1, none⟩ = some (.int .i64 hi) ∧ w'.cell? ⟨gm, 2, none⟩ = some (.int .i64 e2)) (first | (with_reducible exact s4) | (with_reducible exact s5) | (with_reducible exact s6) | (trace_state; fail))
        (first
          | (go_at_call 18; refine (remanence_Clock_Now.calls g lo hi e2 _ _ _ _ _ w _ (by first | exact HI'.out | exact is_below HI'.out (below_drew (Below.refl _ _))) (by first | exact HB'.out | exact below_step HB'.out (below_drew (Below.refl _ _))) rfl).mono ?_; rintro e w5 ⟨rfl, hi5, hb5, hk5⟩; have M5 := Aside0.mk (keep_blk (w := wr) HM'.out hk5 HNE.out); have s5 := c3 M5.out)
          | (go_at_call 19; refine (remanence_Clock_Epoch.calls g lo hi e2 _ _ _ _ w _ hi5 hb5 rfl).mono ?_; rintro e w6 ⟨rfl, hi6, hb6, hk6⟩; have M6 := Aside0.mk (keep_blk M5.out hk6 HNE.out); have s6 := c3 M6.out))
      go_wp2
      go_ret
      exact ⟨rfl, hb6⟩
theorem walk (W : World) (base : Nat) (v0 : Value) (d0 : DataW H) (p0 : List MemPlace) (v1 : Value) (d1 : DataW H) (p1 : List MemPlace) (v2 : Value) (d2 : DataW H) (p2 : List MemPlace) (o0 : Value.okWide Try.prog W .any base 25 v0) (h0 : DataW.Trod enc Try.prog W 0 (fun _ => true) true 25 v0 d0 p0) (o1 : Value.okWide Try.prog W .any base 3 v1) (h1 : DataW.Trod enc Try.prog W 0 (fun _ => true) true 3 v1 d1 p1) (o2 : Value.okWide Try.prog W .any base 34 v2) (h2 : DataW.Trod enc Try.prog W 0 (fun _ => true) true 34 v2 d2 p2) :
    Calls Try.prog 9 #[v0, v1, v2] W fun e w' => e = .returned (.bool true) ∧ Below W.heap.size W w' := by
  obtain ⟨c0, c1, y0, y1, n, rfl, rfl, rfl, hy0, hy1⟩ := Joins.open_agg2 Try.underlying25 (by kernel_rfl) (by kernel_rfl) o0 h0
  obtain ⟨x0, rfl, _⟩ := int_leaf Try.underlying2 hy0
  obtain ⟨x1, rfl, _⟩ := int_leaf Try.underlying2 hy1
  obtain ⟨ep, rfl⟩ := okWide_int Try.underlying3 o1
  obtain ⟨a, cap, xs, rfl, _, hC, _⟩ := open_acts o2 h2
  by_cases hl : xs.length > 60
  · exact long x0 x1 ep a cap xs W hl
  by_cases h : vld x0 x1 = true ∧ 0 ≤ ep ∧ ep ≤ 2147483647
  · exact good x0 x1 ep a cap xs W hC hl h.1 h.2.1 h.2.2
  · exact bad x0 x1 ep a cap xs W hl h
end Go.Proofs.Ytdklncgijnhodaa.RstLaw
