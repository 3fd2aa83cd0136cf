/-
  RemanenceClock: whatever the operations, the clock has the time and the epoch of the reference.
-/
import Derived.Test.YtdklncgijnhodaaDo
set_option linter.unusedVariables false
namespace Go.Proofs.Ytdklncgijnhodaa.ClkLaw
open Go.Deep Go.RowKit Go.ChangeShapes Go.WideShapes Go.ChangeAt Go.Proofs.Ytdklncgijnhodaa.Pr Go.Proofs.Ytdklncgijnhodaa.Plain Go.Proofs.Ytdklncgijnhodaa.Open Go.Proofs.Ytdklncgijnhodaa.DoPl Go.Proofs.Ytdklncgijnhodaa.Do Go.Proofs.YtdklncgijnhodaaW.PrintWords Go.Proofs.YtdklncgijnhodaaW.PrintLast
variable {H : Type} {enc : TypeId × Value → H}
section
variable {P : Program} {w : World} {base : Nat} {spare : Nat → Bool} {held : Bool}
theorem trod_s3 {t : TypeId} {f0 f1 f2 : Field} {fuel : Nat} {cs : List Value} {x : DataW H × List MemPlace} (ht : P.underlying t = some (.struct #[f0, f1, f2])) (h : DataW.trod enc P w base spare held fuel t cs = some x) :
    ∃ y0 y1 y2 n, DataW.trod enc P w base spare held n f0.type ((cs.drop f0.offset).take (P.cellsOf f0.type)) = some y0 ∧
      DataW.trod enc P w base spare held n f1.type ((cs.drop f1.offset).take (P.cellsOf f1.type)) = some y1 ∧ DataW.trod enc P w base spare held n f2.type ((cs.drop f2.offset).take (P.cellsOf f2.type)) = some y2 := by
  obtain ⟨xs, n, _, rfl, hl, hlen, hf⟩ := DataW.trod_struct ht h
  match xs, hlen with
  | [y0, y1, y2], _ => exact ⟨y0, y1, y2, n, by simpa using hf 0 f0 rfl, by simpa using hf 1 f1 rfl, by simpa using hf 2 f2 rfl⟩
theorem trod_s2 {t : TypeId} {f0 f1 : Field} {fuel : Nat} {cs : List Value} {x : DataW H × List MemPlace} (ht : P.underlying t = some (.struct #[f0, f1])) (h : DataW.trod enc P w base spare held fuel t cs = some x) :
    ∃ y0 y1 n, DataW.trod enc P w base spare held n f0.type ((cs.drop f0.offset).take (P.cellsOf f0.type)) = some y0 ∧
      DataW.trod enc P w base spare held n f1.type ((cs.drop f1.offset).take (P.cellsOf f1.type)) = some y1 := by
  obtain ⟨xs, n, _, rfl, hl, hlen, hf⟩ := DataW.trod_struct ht h
  match xs, hlen with
  | [y0, y1], _ => exact ⟨y0, y1, n, by simpa using hf 0 f0 rfl, by simpa using hf 1 f1 rfl⟩
theorem act_leaf {fuel : Nat} {cs : List Value} {y : DataW H × List MemPlace} (hl : cs.length = 4) (h : DataW.trod enc Try.prog w base spare held fuel 40 cs = some y) : ∃ x : S40, k40.K w x cs ∧ True :=
  match cs, hl with
  | [x0, x1, x2, x3], _ => by
    have hz2 : Try.prog.cellsOf 2 = 1 := by kernel_rfl
    have hz3 : Try.prog.cellsOf 3 = 1 := by kernel_rfl
    have hz25 : Try.prog.cellsOf 25 = 2 := by kernel_rfl
    obtain ⟨y0, y1, y2, n, h0, h1, h2⟩ := trod_s3 Try.underlying40 h
    simp only [hz2, hz3, hz25] at h0 h1 h2
    simp at h0 h1 h2
    obtain ⟨a, rfl, _⟩ := int_leaf Try.underlying3 h0
    obtain ⟨b, rfl, _⟩ := int_leaf Try.underlying2 h1
    obtain ⟨z0, z1, m, g0, g1⟩ := trod_s2 Try.underlying25 h2
    simp only [hz2] at g0 g1
    simp at g0 g1
    obtain ⟨c, rfl, _⟩ := int_leaf Try.underlying2 g0
    obtain ⟨d, rfl, _⟩ := int_leaf Try.underlying2 g1
    exact ⟨(⟨a, b, ⟨c, d⟩⟩ : S40), k40_mk w _, trivial⟩
theorem open_acts {v : Value} {dd : DataW H} {p : List MemPlace} {b0 : Nat} {r : Reach} (o : Value.okWide Try.prog w r b0 34 v) (h : DataW.Trod enc Try.prog w base spare held 34 v dd p) : ∃ (a : Option Addr) (cap : Nat) (xs : List S40), v = .slice a xs.length cap ∧ xs.length ≤ cap ∧ k40.C w a xs.length xs ∧ ∀ x ∈ xs, True :=
  rows_of k40 (fun _ => True) Try.underlying34 (by kernel_rfl) (fun fuel cs y hl h => act_leaf hl h) o h
end
set_option maxHeartbeats 4000000 in
set_option maxRecDepth 100000 in
theorem long (F : Nat) (a : Option Addr) (cap : Nat) (xs : List S40) (w : World) (hl : xs.length > 100) :
    Calls Try.prog 4 #[.slice a xs.length cap] w fun e w' => e = .returned (.bool true) ∧ Below w.heap.size w w' := by
  have c1 : decide ((100 : Int) < (xs.length : Int)) = true := decide_eq_true (by omega)
  have c2 : decide (100 < xs.length) = true := decide_eq_true (by omega)
  clear hl
  go_enter Try.func4, Try.ntmps4
  go_wp2_with fail
  refine (tricklelaw09_examples.calls true _ rfl).mono ?_
  rintro e w1 ⟨rfl, hb1⟩
  have HB1 := Aside0.mk hb1
  clear hb1
  go_wp2_with fail
  refine (tricklelaw09_examples.calls true _ rfl).mono ?_
  rintro e w2 ⟨rfl, hb2⟩
  have HB2 := Aside0.mk hb2
  clear hb2
  go_wp2
  go_ret
  exact ⟨rfl, below_step HB1.out HB2.out⟩
set_option maxHeartbeats 4000000 in
set_option maxRecDepth 100000 in
theorem calls (a : Option Addr) (cap : Nat) (xs : List S40) (w : World) (hr : k40.C w a xs.length xs) (hl : ¬ xs.length > 100) :
    Calls Try.prog 4 #[.slice a xs.length cap] w fun e w' => e = .returned (.bool true) ∧ Below w.heap.size w w' := by
  have HR := Aside0.mk hr
  clear hr
  have c1 : decide ((100 : Int) < (xs.length : Int)) = false := decide_eq_false (by omega)
  have c2 : decide (100 < xs.length) = false := decide_eq_false (by omega)
  have HL := Aside0.mk hl
  clear hl
  go_enter Try.func4, Try.ntmps4
  go_wp2_with fail
  refine (tricklelaw09_examples.calls true _ rfl).mono ?_
  rintro e w1 ⟨rfl, hb1⟩
  have HB1 := Aside0.mk hb1
  clear hb1
  have hw1 : w.heap.size ≤ w1.heap.size := HB1.out.size
  have HI := Aside0.mk (show IsS36 w ((w1.alloc (.cells #[.int .i64 0, .int .i64 0, .int .i64 0] 36)).alloc (.cells #[.int .i64 0, .int .i64 0, .int .i64 0] 38)) w1.heap.size 0 0 0 from ⟨blk_alloc (blk_new _ _) _, HB1.out.size⟩)
  have HM := Aside0.mk (show ((w1.alloc (.cells #[.int .i64 0, .int .i64 0, .int .i64 0] 36)).alloc (.cells #[.int .i64 0, .int .i64 0, .int .i64 0] 38)).heap[w1.heap.size + 1]? = some (.cells #[.int .i64 0, .int .i64 0, .int .i64 0] 38 (0, 0)) by simpa using blk_new (w1.alloc (.cells #[.int .i64 0, .int .i64 0, .int .i64 0] 36)) (.cells #[.int .i64 0, .int .i64 0, .int .i64 0] 38))
  have HB := Aside0.mk (below_alloc (below_alloc HB1.out (.cells #[.int .i64 0, .int .i64 0, .int .i64 0] 36)) (.cells #[.int .i64 0, .int .i64 0, .int .i64 0] 38))
  clear HB1
  go_wp2
  obtain ⟨gm, hgm⟩ : ∃ gm, gm = w1.heap.size + 1 := ⟨_, rfl⟩
  have hgl : w.heap.size ≤ gm := by omega
  rw [← hgm] at HM ⊢
  obtain ⟨g, hg⟩ : ∃ g, g = w1.heap.size := ⟨_, rfl⟩
  rw [← hg] at HI ⊢
  clear hg hgm hw1
  go_loopw [17] (fun i wr => ∃ (k : Nat) (lo hi ep : Int), k ≤ xs.length ∧ i = .int .i64 k ∧ Aside0 (IsS36 w wr g lo hi ep) ∧ Aside0 (wr.heap[gm]? = some (.cells #[.int .i64 lo, .int .i64 hi, .int .i64 ep] 38 (0, 0))) ∧ Aside0 (Okay lo hi ep ∧ ep ≤ k) ∧ Aside0 (Below w.heap.size w wr)) (fun i _ => xs.length - (intOf i).toNat)
  case atStart => exact ⟨0, 0, 0, 0, Nat.zero_le _, rfl, HI, HM, ⟨by unfold Okay; omega, by omega⟩, HB⟩
  case round =>
    obtain ⟨k, lo, hi, ep, hk, rfl, HI', HM', HO, HB'⟩ := hrel
    clear HI HM HB
    have hlen : xs.length ≤ 100 := by have := HL.out; omega
    by_cases hlt : k < xs.length
    · obtain ⟨ad, had, h0, h1, h2, h3⟩ := at_T40 HR.out (k : Int) (by omega) (by omega)
      rw [Int.toNat_natCast] at h0 h1 h2 h3
      generalize rd_T40 xs (k : Int) = x at *
      obtain ⟨kd, tk, ⟨x1, x2⟩⟩ := x
      have r0 := pw_cell_below HB'.out h0
      have r1 := pw_cell_below HB'.out h1
      have r2 := pw_cell_below HB'.out h2
      have r3 := pw_cell_below HB'.out h3
      simp only at r0 r1 r2 r3
      clear h0 h1 h2 h3
      subst had
      go_wp2_with fail
      refine (do_any w _ g gm lo hi ep kd tk x1 x2 (is_below HI'.out (below_alloc (Below.refl _ _) _)) (blk_alloc HM'.out _) hgl (below_alloc HB'.out _) HO.out.1).mono ?_
      rintro e w2 ⟨lo', hi', ep', rfl, hi2, hm2, hb2, hst, _⟩
      have HI2 := Aside0.mk hi2
      have HM2 := Aside0.mk hm2
      have HB2 := Aside0.mk hb2
      have HO2 := Aside0.mk (show Okay lo' hi' ep' ∧ ep' ≤ ((k + 1 : Nat) : Int) by have h := HO.out; unfold Ste Okay at *; omega)
      clear hi2 hm2 hb2 hst HI' HM' HB' HO r0 r1 r2 r3
      go_wp2
      go_roundw
      case rel => exact ⟨k + 1, lo', hi', ep', by omega, by go_num, HI2, HM2, HO2, HB2⟩
      case measure => simp [intOf]; omega
    · go_wp2
      go_ret
      exact ⟨rfl, HB'.out⟩
theorem walk (W : World) (base : Nat) (v0 : Value) (d0 : DataW H) (p0 : List MemPlace) (o0 : Value.okWide Try.prog W .any base 34 v0) (h0 : DataW.Trod enc Try.prog W 0 (fun _ => true) true 34 v0 d0 p0) :
    Calls Try.prog 4 #[v0] W fun e w' => e = .returned (.bool true) ∧ Below W.heap.size W w' := by
  obtain ⟨a, cap, xs, rfl, _, hC, _⟩ := open_acts o0 h0
  by_cases hl : xs.length > 100
  · exact long 0 a cap xs W hl
  · exact calls a cap xs W hC hl
end Go.Proofs.Ytdklncgijnhodaa.ClkLaw
