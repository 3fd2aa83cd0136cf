/-
  RemanenceContains: whatever the configuration, the power failures and the reading.
-/
import Derived.Test.YtdklncgijnhodaaConPl
import Derived.Test.YtdklncgijnhodaaDoD
import Derived.Test.YtdklncgijnhodaaOpen
import Derived.Deep.RegionHeld3
import Derived.Deep.DeepCutAuto
import Derived.Outline
set_option linter.unusedVariables false
namespace Go.Proofs.Ytdklncgijnhodaa.ConLaw
open Go.Deep Go.RowKit Go.ChangeShapes Go.WideShapes Go.ChangeAt Go.Proofs.Ytdklncgijnhodaa.Pr Go.Proofs.Ytdklncgijnhodaa.Plain Go.Proofs.Ytdklncgijnhodaa.ConPl Go.Proofs.Ytdklncgijnhodaa.Open Go.Proofs.Ytdklncgijnhodaa.Do Go.Proofs.YtdklncgijnhodaaW.PrintWords Go.Proofs.YtdklncgijnhodaaW.PrintLast
variable {H : Type} {enc : TypeId × Value → H}
section
variable {w w1 : World} {gc gp : Nat} {e s on off : Int}
theorem lm (hC : w.heap[gc]? = some (.cells #[.int .i64 e, .int .i64 s] 23 (0, 0))) (hP : w.heap[gp]? = some (.cells #[.int .u32 on, .int .u32 off] 52 (0, 0))) : w.cell? ⟨gc, 0, none⟩ = some (.int .i64 e) ∧ w.cell? ⟨gc, 1, none⟩ = some (.int .i64 s) ∧ w.cell? ⟨gp, 1, none⟩ = some (.int .u32 off) :=
  ⟨(blk_cell hC 0).trans rfl, (blk_cell hC 1).trans rfl, (blk_cell hP 1).trans rfl⟩
theorem lm_below (h : w.cell? ⟨gc, 0, none⟩ = some (.int .i64 e) ∧ w.cell? ⟨gc, 1, none⟩ = some (.int .i64 s) ∧ w.cell? ⟨gp, 1, none⟩ = some (.int .u32 off)) (hb : Below w.heap.size w w1) : w1.cell? ⟨gc, 0, none⟩ = some (.int .i64 e) ∧ w1.cell? ⟨gc, 1, none⟩ = some (.int .i64 s) ∧ w1.cell? ⟨gp, 1, none⟩ = some (.int .u32 off) :=
  ⟨pw_cell_below hb h.1, pw_cell_below hb h.2.1, pw_cell_below hb h.2.2⟩
theorem lm_set {z : Nat} {u v : Value} (h : w.cell? ⟨gc, 0, none⟩ = some (.int .i64 e) ∧ w.cell? ⟨gc, 1, none⟩ = some (.int .i64 s) ∧ w.cell? ⟨gp, 1, none⟩ = some (.int .u32 off)) (h1 : gc ≠ z) (h2 : gp ≠ z) :
    ((w.setCell ⟨z, 0, none⟩ u).setCell ⟨z, 1, none⟩ v).cell? ⟨gc, 0, none⟩ = some (.int .i64 e) ∧ ((w.setCell ⟨z, 0, none⟩ u).setCell ⟨z, 1, none⟩ v).cell? ⟨gc, 1, none⟩ = some (.int .i64 s) ∧ ((w.setCell ⟨z, 0, none⟩ u).setCell ⟨z, 1, none⟩ v).cell? ⟨gp, 1, none⟩ = some (.int .u32 off) :=
  ⟨(cell_far h1 _).trans ((cell_far h1 _).trans h.1), (cell_far h1 _).trans ((cell_far h1 _).trans h.2.1), (cell_far h2 _).trans ((cell_far h2 _).trans h.2.2)⟩
end
section
variable {w w1 : World} {gt : Nat} {a b : Int}
theorem tm (h : w.heap[gt]? = some (.cells #[.int .i64 a, .int .i64 b] 25 (0, 0))) : w.cell? ⟨gt, 0, none⟩ = some (.int .i64 a) ∧ w.cell? ⟨gt, 1, none⟩ = some (.int .i64 b) :=
  ⟨(blk_cell h 0).trans rfl, (blk_cell h 1).trans rfl⟩
theorem tm_below (h : w.cell? ⟨gt, 0, none⟩ = some (.int .i64 a) ∧ w.cell? ⟨gt, 1, none⟩ = some (.int .i64 b)) (hb : Below w.heap.size w w1) : w1.cell? ⟨gt, 0, none⟩ = some (.int .i64 a) ∧ w1.cell? ⟨gt, 1, none⟩ = some (.int .i64 b) :=
  ⟨pw_cell_below hb h.1, pw_cell_below hb h.2⟩
theorem tm_set {z : Nat} {u v : Value} (h : w.cell? ⟨gt, 0, none⟩ = some (.int .i64 a) ∧ w.cell? ⟨gt, 1, none⟩ = some (.int .i64 b)) (h1 : gt ≠ z) :
    ((w.setCell ⟨z, 0, none⟩ u).setCell ⟨z, 1, none⟩ v).cell? ⟨gt, 0, none⟩ = some (.int .i64 a) ∧ ((w.setCell ⟨z, 0, none⟩ u).setCell ⟨z, 1, none⟩ v).cell? ⟨gt, 1, none⟩ = some (.int .i64 b) :=
  ⟨(cell_far h1 _).trans ((cell_far h1 _).trans h.1), (cell_far h1 _).trans ((cell_far h1 _).trans h.2)⟩
end
set_option maxHeartbeats 16000000 in
set_option maxRecDepth 100000 in
theorem calls (e s fr : Int) (a : Option Addr) (cap : Nat) (xs : List S52) (w : World) (hr : k52.C w a xs.length xs) (hx : ∀ x ∈ xs, (0 ≤ x.f0 ∧ x.f0 ≤ 4294967295) ∧ (0 ≤ x.f1 ∧ x.f1 ≤ 4294967295)) (hR : 0 ≤ e ∧ e ≤ 500 ∧ 1 ≤ s ∧ s ≤ 1099511627776) (hg : xs.length ≤ 60 ∧ 0 ≤ fr ∧ fr < xs.length) :
    Calls Try.prog 6 #[.agg #[.int .i64 e, .int .i64 s], .slice a xs.length cap, .int .i64 fr] w fun e w' => e = .returned (.bool true) ∧ Below w.heap.size w w' := by
  have HR := Aside0.mk hr
  have HX := Aside0.mk hx
  have HRt := Aside0.mk (show trickleref09_Right.f e s = some true by rw [right_tells, decide_eq_true hR])
  have HRR := Aside0.mk hR
  have G := Aside0.mk hg
  have c1 : decide ((60 : Int) < (xs.length : Int)) = false := decide_eq_false (by omega)
  have c1' : decide (60 < xs.length) = false := decide_eq_false (by omega)
  have c2 : decide (fr < 0) = false := decide_eq_false (by omega)
  have c3 : decide ((xs.length : Int) ≤ fr) = false := decide_eq_false (by omega)
  clear hr hx hR hg
  go_enter Try.func6, Try.ntmps6
  go_wp2_with fail
  refine (tricklelaw09_examples.calls true _ rfl).mono ?_
  rintro ee w1 ⟨rfl, hb1⟩
  have BK := blk_below (blk_new w (.cells #[.int .i64 e, .int .i64 s] 23)) hb1
  have k0 : w1.cell? ⟨w.heap.size, 0, none⟩ = some (.int .i64 e) := (blk_cell BK 0).trans rfl
  have k1 : w1.cell? ⟨w.heap.size, 1, none⟩ = some (.int .i64 s) := (blk_cell BK 1).trans rfl
  have BKc := Aside0.mk BK
  have HB1 := Aside0.mk (below_step (below_alloc (Below.refl w.heap.size w) _) hb1)
  clear BK hb1
  go_wp2_with fail
  refine (trickleref09_Right.calls _ _ _ _ HRt.out).mono ?_
  rintro ee w2 ⟨rfl, hb2⟩
  have BK2 := Aside0.mk (blk_below BKc.out hb2)
  have HB2 := Aside0.mk (below_step HB1.out hb2)
  clear BKc HB1 hb2 k0 k1
  have hlt2 := blk_lt BK2.out
  have HI := Aside0.mk (show IsS36 w ((w2.alloc (.cells #[.int .i64 0, .int .i64 0, .int .i64 0] 36)).alloc (.cells #[.int .i64 0, .int .i64 0] 25)) w2.heap.size 0 0 0 from ⟨blk_alloc (blk_new _ _) _, HB2.out.size⟩)
  have HT := Aside0.mk (show ((w2.alloc (.cells #[.int .i64 0, .int .i64 0, .int .i64 0] 36)).alloc (.cells #[.int .i64 0, .int .i64 0] 25)).heap[w2.heap.size + 1]? = some (.cells #[.int .i64 0, .int .i64 0] 25 (0, 0)) by simpa using blk_new (w2.alloc (.cells #[.int .i64 0, .int .i64 0, .int .i64 0] 36)) (.cells #[.int .i64 0, .int .i64 0] 25))
  have HB := Aside0.mk (below_alloc (below_alloc HB2.out (.cells #[.int .i64 0, .int .i64 0, .int .i64 0] 36)) (.cells #[.int .i64 0, .int .i64 0] 25))
  have HC := Aside0.mk (blk_alloc (blk_alloc BK2.out (.cells #[.int .i64 0, .int .i64 0, .int .i64 0] 36)) (.cells #[.int .i64 0, .int .i64 0] 25))
  have HN := Aside0.mk (show w.heap.size ≠ w2.heap.size ∧ w2.heap.size + 1 ≠ w2.heap.size ∧ w.heap.size ≠ w2.heap.size + 1 ∧ w.heap.size ≤ w2.heap.size + 1 by omega)
  clear BK2 HB2
  go_wp2
  obtain ⟨gt, hgt⟩ : ∃ gt, gt = w2.heap.size + 1 := ⟨_, rfl⟩
  rw [← hgt] at HT HN ⊢
  obtain ⟨g, hg⟩ : ∃ g, g = w2.heap.size := ⟨_, rfl⟩
  rw [← hg] at HI HN ⊢
  obtain ⟨gc, hgc⟩ : ∃ gc, gc = w.heap.size := ⟨_, rfl⟩
  have HGC := Aside0.mk hgc
  rw [← hgc] at HC HN ⊢
  clear hg hgt hlt2 hgc
  go_loopw [9, 10, 43] (fun e0 p0 i wr => ∃ (k : Nat) (lo hi ep tlo thi epoch P : Int), k ≤ xs.length ∧ e0 = .int .i64 epoch ∧ p0 = .int .i64 P ∧ i = .int .i64 k ∧ Aside0 (Cst lo hi ep tlo thi epoch P ∧ 0 ≤ P ∧ P ≤ k * 8589934590 ∧ ep ≤ k) ∧ Aside0 (IsS36 w wr g lo hi ep) ∧ Aside0 (wr.heap[gt]? = some (.cells #[.int .i64 tlo, .int .i64 thi] 25 (0, 0))) ∧ Aside0 (wr.heap[gc]? = some (.cells #[.int .i64 e, .int .i64 s] 23 (0, 0))) ∧ Aside0 (Below w.heap.size w wr)) (fun _ _ i _ => xs.length - (intOf i).toNat)
  case atStart => exact ⟨0, 0, 0, 0, 0, 0, 0, 0, Nat.zero_le _, rfl, rfl, rfl, ⟨⟨by unfold Cst; omega, by omega, by omega, by omega⟩⟩, HI, HT, HC, HB⟩
  case round =>
    obtain ⟨k, lo, hi, ep, tlo, thi, epoch, P, hk, rfl, rfl, rfl, HS', HI', HT', HC', HB'⟩ := hrel
    clear HI HT HC HB
    have hlen : xs.length ≤ 60 := G.out.1
    by_cases hlt : k < xs.length
    · obtain ⟨ad, had, h0, h1⟩ := at_T52 HR.out (k : Int) (by omega) (by omega)
      rw [Int.toNat_natCast] at h0 h1
      have hb : (0 ≤ (rd_T52 xs (k : Int)).f0 ∧ (rd_T52 xs (k : Int)).f0 ≤ 4294967295) ∧ (0 ≤ (rd_T52 xs (k : Int)).f1 ∧ (rd_T52 xs (k : Int)).f1 ≤ 4294967295) := by
        unfold rd_T52
        rw [List.getD_eq_getElem?_getD, Int.toNat_natCast, List.getElem?_eq_getElem hlt]
        exact HX.out _ (List.getElem_mem hlt)
      generalize rd_T52 xs (k : Int) = z at *
      obtain ⟨on, off⟩ := z
      have r0 := pw_cell_below HB'.out h0
      have r1 := pw_cell_below HB'.out h1
      simp only at r0 r1 hb
      obtain ⟨⟨o0, o1⟩, o2, o3⟩ := hb
      clear h0 h1
      subst had
      obtain ⟨x, y, ok, hm, hxy, hxo, hoy⟩ := measure_has e s off HRR.out o2 o3
      have HM := Aside0.mk hm
      have HXY := Aside0.mk hxy
      have HXO := Aside0.mk hxo
      have HOY := Aside0.mk hoy
      clear hm hxy hxo hoy
      have I3 := Aside0.mk (is_below HI'.out (below_alloc (Below.refl _ _) (.cells #[.int .u32 on, .int .u32 off] 52)))
      have B3 := Aside0.mk (below_alloc HB'.out (.cells #[.int .u32 on, .int .u32 off] 52))
      have T3 := Aside0.mk (blk_alloc HT'.out (.cells #[.int .u32 on, .int .u32 off] 52))
      have C3 := Aside0.mk (blk_alloc HC'.out (.cells #[.int .u32 on, .int .u32 off] 52))
      have P3 := Aside0.mk (blk_new wr (.cells #[.int .u32 on, .int .u32 off] 52))
      have HPG := Aside0.mk (show wr.heap.size ≠ g ∧ wr.heap.size ≠ gt ∧ gc < wr.heap.size by have := blk_lt HI'.out.1; have := blk_lt HT'.out; have := blk_lt HC'.out; omega)
      by_cases hf : (k : Int) = fr
      · subst hf
        go_wp2_with fail
        refine (remanence_Clock_Now.calls g lo hi ep _ _ _ _ _ w _ I3.out B3.out rfl).mono ?_
        rintro ee w3 ⟨rfl, hi3, hb3, hk3⟩
        have I4 := Aside0.mk hi3
        have B4 := Aside0.mk hb3
        have T4 := Aside0.mk (keep_blk T3.out hk3 HN.out.2.1)
        have C4 := Aside0.mk (keep_blk C3.out hk3 HN.out.1)
        have P4 := Aside0.mk (keep_blk P3.out hk3 HPG.out.1)
        clear hi3 hb3 hk3 I3 B3 T3 C3 P3 HI' HB' HT' HC' r0 r1
        go_wp2_with fail
        refine (remanence_Clock_Epoch.calls g lo hi ep _ _ _ _ w _ I4.out B4.out rfl).mono ?_
        rintro ee w4 ⟨rfl, hi4, hb4, hk4⟩
        have I5 := Aside0.mk hi4
        have B5 := Aside0.mk hb4
        have T5 := Aside0.mk (keep_blk T4.out hk4 HN.out.2.1)
        have C5 := Aside0.mk (keep_blk C4.out hk4 HN.out.1)
        have P5 := Aside0.mk (keep_blk P4.out hk4 HPG.out.1)
        clear hi4 hb4 hk4 I4 B4 T4 C4 P4
        have t0 : w4.cell? ⟨gt, 0, none⟩ = some (.int .i64 tlo) := (blk_cell T5.out 0).trans rfl
        have t1 : w4.cell? ⟨gt, 1, none⟩ = some (.int .i64 thi) := (blk_cell T5.out 1).trans rfl
        have y0 := blk_frozen T5.out 0
        have y1 := blk_frozen T5.out 1
        go_wp2_with fail
        obtain ⟨w5, hw5⟩ : ∃ w5, w5 = (w4.setCell ⟨gt, 0, none⟩ (.int .i64 lo)).setCell ⟨gt, 1, none⟩ (.int .i64 hi) := ⟨_, rfl⟩
        have I6 := Aside0.mk (show IsS36 w w5 g lo hi ep by rw [hw5]; exact is_far (is_far I5.out HN.out.2.1.symm) HN.out.2.1.symm)
        have B6 := Aside0.mk (show Below w.heap.size w w5 by rw [hw5]; exact below_set (below_set B5.out (HGC.out ▸ HN.out.2.2.2)) (HGC.out ▸ HN.out.2.2.2))
        have T6 := Aside0.mk (show w5.heap[gt]? = some (.cells #[.int .i64 lo, .int .i64 hi] 25 (0, 0)) by rw [hw5]; exact blk_put (blk_put T5.out 0 _ rfl) 1 _ rfl)
        have C6 := Aside0.mk (show w5.heap[gc]? = some (.cells #[.int .i64 e, .int .i64 s] 23 (0, 0)) by rw [hw5]; exact far1 (far1 C5.out HN.out.2.2.1) HN.out.2.2.1)
        have P6 := Aside0.mk (show w5.heap[wr.heap.size]? = some (.cells #[.int .u32 on, .int .u32 off] 52 (0, 0)) by rw [hw5]; exact far1 (far1 P5.out HPG.out.2.1) HPG.out.2.1)
        rw [← hw5]
        clear hw5 t0 t1 y0 y1 I5 B5 T5 C5 P5
        have HS6 := Aside0.mk (show Cst lo hi ep lo hi ep 0 ∧ (0 : Int) ≤ 0 ∧ (0 : Int) ≤ k * 8589934590 ∧ ep ≤ k from ⟨HS'.out.1.taken, by omega, by omega, HS'.out.2.2.2⟩)
        clear HS'
        generalize wr.heap.size = gp at *
        obtain ⟨W, hW⟩ : ∃ W, W = w5 := ⟨_, rfl⟩
        rw [← hW] at I6 B6 T6 C6 P6 ⊢
        clear hW
        go_cut [13, 14, 15] (fun s13 s14 s15 wx => ∃ z : Nat, s13 = .pointer (some ⟨z, 0, none⟩) ∧ s14 = .bool ok ∧ s15 = .int .i64 0 ∧ Aside0 (wx.heap[z]? = some (.cells #[.int .i64 x, .int .i64 y] 25 (0, 0)) ∧ W.heap.size ≤ z ∧ Below W.heap.size W wx))
        case first =>
          have HWR := Aside0.mk (show IntKind.i64.wrap off = off from Go.IntWalk.i64_in off ⟨by omega, by omega⟩)
          have s4 := lm (w := W.drew) C6.out P6.out
          have HZ4 := Aside0.mk (show gc ≠ W.heap.size ∧ gp ≠ W.heap.size by have := blk_lt C6.out; have := blk_lt P6.out; omega)
          go_region_held3 (fun w' => w'.cell? ⟨gc, 0, none⟩ = some (.int .i64 e) ∧ w'.cell? ⟨gc, 1, none⟩ = some (.int .i64 s) ∧ w'.cell? ⟨gp, 1, none⟩ = some (.int .u32 off)) (first | (with_reducible exact s6) | (with_reducible exact lm_set s6 HZ4.out.1 HZ4.out.2) | (with_reducible exact lm_set s6 HZ5.out.1 HZ5.out.2) | (with_reducible exact s5) | (with_reducible exact s4) | (with_reducible exact lm_below s6 (below_alloc (Below.refl _ _) _)) | (with_reducible exact lm_below s5 (below_alloc (Below.refl _ _) _)) | (with_reducible exact lm_below s4 (below_alloc (Below.refl _ _) _)) | (trace_state; fail))
            (first
              | (go_at_call 11; refine (tricklelaw09_own.calls e s e s _ rfl).mono ?_; rintro ee w5 ⟨rfl, hb5⟩; have k5 : Below W.heap.size W w5 := (by first | exact Below.trans (below_drew (Below.refl _ _)) hb5 | exact Below.trans (below_alloc (below_drew (Below.refl _ _)) _) (hb5.mono (by simp))); have s5 := lm_below (w := W) s4 k5; (try (have zb : w5.heap[W.heap.size]? = some (.cells #[.int .i64 0, .int .i64 0] 25 (0, 0)) := blk_below (show (W.drew.alloc (.cells #[.int .i64 0, .int .i64 0] 25)).heap[W.heap.size]? = _ from blk_new W.drew _) hb5)); have HZ5 := Aside0.mk (show gc ≠ w5.heap.size ∧ gp ≠ w5.heap.size by have := k5.size; have := blk_lt C6.out; have := blk_lt P6.out; omega))
              | (go_at_call 10; rw [HWR.out]; refine (remanence_Measure.calls 1 e s off x y ok 0 _ HM.out).mono ?_; rintro ee w6 ⟨rfl, hb6⟩; have k6 : Below w5.heap.size w5 w6 := (by first | exact hb6 | exact Below.trans (below_alloc (Below.refl _ _) _) (hb6.mono (by simp))); have s6 := lm_below s5 k6; (try (have zc : w6.heap[W.heap.size]? = some (.cells #[.int .i64 0, .int .i64 0] 25 (0, 0)) := blk_below zb hb6)); (try (have zc : w6.heap[w5.heap.size]? = some (.cells #[.int .i64 0, .int .i64 0] 25 (0, 0)) := blk_below (blk_new w5 _) hb6)); (try (have z0 := (blk_cell zc 0).trans (show _ = some (Value.int .i64 0) from rfl); have z1 := (blk_cell zc 1).trans (show _ = some (Value.int .i64 0) from rfl); have y0 := blk_frozen zc 0; have y1 := blk_frozen zc 1; have ZC := Aside0.mk zc; clear zc))))
          · go_wp2_with fail
            go_meet
            exact ⟨w6.heap.size, rfl, rfl, rfl, ⟨blk_new w6 _, Nat.le_trans k5.size k6.size, below_alloc (below_step k5 k6) _⟩⟩
          · go_wp2_with fail
            go_meet
            exact ⟨w5.heap.size, rfl, rfl, rfl, ⟨blk_put (blk_put ZC.out 0 _ rfl) 1 _ rfl, k5.size, below_set (below_set (below_step k5 k6) k5.size) k5.size⟩⟩
          · go_wp2_with fail
            go_meet
            exact ⟨W.heap.size, rfl, rfl, rfl, ⟨blk_put (blk_put ZC.out 0 _ rfl) 1 _ rfl, Nat.le_refl _, below_set (below_set (below_step k5 k6) (Nat.le_refl _)) (Nat.le_refl _)⟩⟩
        case rest =>
          obtain ⟨z, rfl, rfl, rfl, HZ⟩ := hcut
          have I7 := Aside0.mk (is_below I6.out HZ.out.2.2)
          have B7 := Aside0.mk (below_step B6.out HZ.out.2.2)
          have T7 := Aside0.mk (blk_below T6.out HZ.out.2.2)
          have C7 := Aside0.mk (blk_below C6.out HZ.out.2.2)
          have P7 := Aside0.mk (blk_below P6.out HZ.out.2.2)
          have HZG := Aside0.mk (show z ≠ g by have := blk_lt I6.out.1; have := HZ.out.2.1; omega)
          have p0 : wc.cell? ⟨gp, 0, none⟩ = some (.int .u32 on) := (blk_cell P7.out 0).trans rfl
          have hv1 : 0 ≤ lo ∧ lo ≤ hi ∧ hi ≤ 1099511627776 := ⟨HS6.out.1.1, HS6.out.1.2.1, HS6.out.1.2.2.1⟩
          have HV2 := Aside0.mk (show 0 ≤ clamp (lo + on) ∧ clamp (lo + on) ≤ clamp (hi + on) ∧ clamp (hi + on) ≤ 1099511627776 by unfold clamp; (repeat' split) <;> omega)
          have HRun := Aside0.mk (run_tells lo hi ep on hv1 o0 o1)
          have HE := Aside0.mk (show 0 ≤ ep ∧ ep ≤ 100 from ⟨HS6.out.1.2.2.2.1, by have := HS6.out.2.2.2; omega⟩)
          clear hv1 I6 B6 T6 C6 P6
          go_wp2_with fail
          refine (remanence_Clock_Run.calls g lo hi ep on _ _ _ _ w _ I7.out B7.out HRun.out).mono ?_
          rintro ee w8 ⟨rfl, hi8, hb8, hk8⟩
          have I8 := Aside0.mk hi8
          have B8 := Aside0.mk hb8
          have T8 := Aside0.mk (keep_blk T7.out hk8 HN.out.2.1)
          have C8 := Aside0.mk (keep_blk C7.out hk8 HN.out.1)
          have P8 := Aside0.mk (keep_blk P7.out hk8 HPG.out.1)
          have X8 := Aside0.mk (keep_blk HZ.out.1 hk8 HZG.out)
          clear hi8 hb8 hk8 I7 B7 T7 C7 P7 HZ HRun p0
          have x0 : w8.cell? ⟨z, 0, none⟩ = some (.int .i64 x) := (blk_cell X8.out 0).trans rfl
          have x1 : w8.cell? ⟨z, 1, none⟩ = some (.int .i64 y) := (blk_cell X8.out 1).trans rfl
          have hP0 : (0 : Int) ≤ 0 := HS6.out.2.1
          have hP1 : 0 ≤ 515396075400 := by have := HS6.out.2.2.1; omega
          cases ok
          · go_wp2_with fail
            refine (remanence_Clock_Saturate.calls g _ _ ep x y _ _ _ _ w _ I8.out B8.out (sat_tells _ _ ep x y HV2.out HXY.out HE.out.1 HE.out.2)).mono ?_
            rintro ee w9 ⟨rfl, hi9, hb9, hk9⟩
            have HS9 := Aside0.mk (show Cst (clamp (clamp (lo + on) + x)) (clamp (clamp (lo + on) + x)) (ep + 1) lo hi ep (on + off) by have h := HS6.out.1.sat (off := off) o0 HXY.out; first | exact h | (rw [Int.zero_add] at h; exact h))
            have hE2 : ep + 1 ≤ k + 1 := by have := HS6.out.2.2.2; omega
            have T9 := Aside0.mk (keep_blk T8.out hk9 HN.out.2.1)
            have C9 := Aside0.mk (keep_blk C8.out hk9 HN.out.1)
            have P9 := Aside0.mk (keep_blk P8.out hk9 HPG.out.1)
            have B9 := Aside0.mk hb9
            obtain ⟨L2, H2, E2, I9, S9, hE⟩ : ∃ L2 H2 E2, Aside0 (IsS36 w w9 g L2 H2 E2) ∧ Aside0 (Cst L2 H2 E2 lo hi ep (on + off)) ∧ E2 ≤ k + 1 := ⟨_, _, _, ⟨hi9⟩, HS9, hE2⟩
            have HSN := Aside0.mk (show Cst L2 H2 E2 lo hi ep (on + off) ∧ (0 : Int) ≤ (on + off) ∧ (on + off) ≤ ((k + 1 : Nat) : Int) * 8589934590 ∧ E2 ≤ ((k + 1 : Nat) : Int) from ⟨S9.out, by omega, by have := HS6.out.2.2.1; push_cast; omega, by push_cast; omega⟩)
            clear hi9 hb9 hk9 HS9 hE2 I8 B8 T8 C8 P8 X8 x0 x1 HS6 HV2 HE HXO HOY HXY HM S9
            have q0 : w9.cell? ⟨gp, 0, none⟩ = some (.int .u32 on) := (blk_cell P9.out 0).trans rfl
            have q1 : w9.cell? ⟨gp, 1, none⟩ = some (.int .u32 off) := (blk_cell P9.out 1).trans rfl
            go_wp2_with fail
            refine (remanence_Clock_Epoch.calls g L2 H2 E2 _ _ _ _ w _ I9.out B9.out rfl).mono ?_
            rintro ee w10 ⟨rfl, hi10, hb10, hk10⟩
            have I10 := Aside0.mk hi10
            have B10 := Aside0.mk hb10
            have T10 := Aside0.mk (keep_blk T9.out hk10 HN.out.2.1)
            have C10 := Aside0.mk (keep_blk C9.out hk10 HN.out.1)
            clear hi10 hb10 hk10 I9 B9 T9 C9 P9 q0 q1
            by_cases he : E2 = ep
            · have d1 : (E2 != ep) = false := by simp [he]
              have HEQ := Aside0.mk he
              clear he
              go_wp2_with fail
              refine (remanence_Clock_Now.calls g L2 H2 E2 _ _ _ _ _ w _ I10.out B10.out rfl).mono ?_
              rintro ee w11 ⟨rfl, hi11, hb11, hk11⟩
              have I11 := Aside0.mk hi11
              have B11 := Aside0.mk hb11
              have T11 := Aside0.mk (keep_blk T10.out hk11 HN.out.2.1)
              have C11 := Aside0.mk (keep_blk C10.out hk11 HN.out.1)
              clear hi11 hb11 hk11 I10 B10 T10 C10
              by_cases hm : H2 < 1099511627776
              · have d2 : decide ((1099511627776 : Int) ≤ H2) = false := decide_eq_false (by omega)
                have HAG := Aside0.mk (show remanence_Age.f L2 H2 lo hi = some (L2 - lo, H2 - hi, 0) ∧ L2 - lo ≤ (on + off) ∧ (on + off) ≤ H2 - hi from by have h := HSN.out.1; rw [← HEQ.out] at h; exact h.age hm)
                go_wp2_with fail
                change (_ : Act → World → Prop) (Act.put _ _ (Value.int .i64 H2)) _
                go_wp2_with fail
                go_cut [16, 17] (fun s16 s17 wx => ∃ z : Nat, s16 = .pointer (some ⟨z, 0, none⟩) ∧ s17 = .int .i64 0 ∧ Aside0 (wx.heap[z]? = some (.cells #[.int .i64 (L2 - lo), .int .i64 (H2 - hi)] 25 (0, 0)) ∧ IsS36 w wx g L2 H2 E2 ∧ wx.heap[gt]? = some (.cells #[.int .i64 lo, .int .i64 hi] 25 (0, 0)) ∧ wx.heap[gc]? = some (.cells #[.int .i64 e, .int .i64 s] 23 (0, 0)) ∧ Below w.heap.size w wx))
                case first =>
                  have s11 := tm (w := w11.drew) T11.out
                  have HZ11 := Aside0.mk (show gt ≠ w11.heap.size ∧ gc ≠ w11.heap.size ∧ w11.heap.size ≠ g ∧ w.heap.size ≤ w11.heap.size by have := blk_lt T11.out; have := blk_lt C11.out; have := blk_lt I11.out.1; have := B11.out.size; omega)
                  go_region_held3 (fun w' => w'.cell? ⟨gt, 0, none⟩ = some (.int .i64 lo) ∧ w'.cell? ⟨gt, 1, none⟩ = some (.int .i64 hi)) (first | (with_reducible exact s13) | (with_reducible exact tm_set s13 HZ11.out.1) | (with_reducible exact tm_set s13 HZ12.out.1) | (with_reducible exact s12) | (with_reducible exact s11) | (with_reducible exact tm_below s13 (below_alloc (Below.refl _ _) _)) | (with_reducible exact tm_below s12 (below_alloc (Below.refl _ _) _)) | (with_reducible exact tm_below s11 (below_alloc (Below.refl _ _) _)) | (trace_state; fail))
                    (first
                      | (go_at_call 18; refine (remanence_Clock_Now.calls g L2 H2 E2 _ _ _ _ _ w _ ?sI ?sB rfl).mono ?_; (case sI => first | exact is_below I11.out (below_drew (Below.refl _ _)) | exact is_below I11.out (below_alloc (below_drew (Below.refl _ _)) _)); (case sB => first | exact below_step B11.out (below_drew (Below.refl _ _)) | exact below_step B11.out (below_alloc (below_drew (Below.refl _ _)) _)); rintro ee w12 ⟨rfl, hi12, hb12, hk12⟩; have T12 := Aside0.mk (show w12.heap[gt]? = some (.cells #[.int .i64 lo, .int .i64 hi] 25 (0, 0)) from by first | exact keep_blk (blk_drew T11.out) hk12 HN.out.2.1 | exact keep_blk (blk_alloc (blk_drew T11.out) _) hk12 HN.out.2.1); have C12 := Aside0.mk (show w12.heap[gc]? = some (.cells #[.int .i64 e, .int .i64 s] 23 (0, 0)) from by first | exact keep_blk (blk_drew C11.out) hk12 HN.out.1 | exact keep_blk (blk_alloc (blk_drew C11.out) _) hk12 HN.out.1); have s12 := tm T12.out; (try (have zb : w12.heap[w11.heap.size]? = some (.cells #[.int .i64 0, .int .i64 0] 25 (0, 0)) := keep_blk (show (w11.drew.alloc (.cells #[.int .i64 0, .int .i64 0] 25)).heap[w11.heap.size]? = _ from blk_new w11.drew _) hk12 HZ11.out.2.2.1)); have HZ12 := Aside0.mk (show gt ≠ w12.heap.size ∧ gc ≠ w12.heap.size ∧ g ≠ w12.heap.size ∧ w.heap.size ≤ w12.heap.size by have := blk_lt T12.out; have := blk_lt C12.out; have := blk_lt hi12.1; have := hb12.size; omega))
                      | (go_at_call 15; refine (remanence_Age.calls L2 H2 lo hi _ _ 0 _ HAG.out.1).mono ?_; rintro ee w13 ⟨rfl, hb13⟩; have k13 : Below w12.heap.size w12 w13 := (by first | exact hb13 | exact Below.trans (below_alloc (Below.refl _ _) _) (hb13.mono (by simp))); have s13 := tm_below s12 k13; (try (have zc : w13.heap[w11.heap.size]? = some (.cells #[.int .i64 0, .int .i64 0] 25 (0, 0)) := blk_below zb hb13)); (try (have zc : w13.heap[w12.heap.size]? = some (.cells #[.int .i64 0, .int .i64 0] 25 (0, 0)) := blk_below (blk_new w12 _) hb13)); (try (have z0 := (blk_cell zc 0).trans (show _ = some (Value.int .i64 0) from rfl); have z1 := (blk_cell zc 1).trans (show _ = some (Value.int .i64 0) from rfl); have y0 := blk_frozen zc 0; have y1 := blk_frozen zc 1; have ZC := Aside0.mk zc; clear zc))))
                  · go_wp2_with fail
                    go_meet
                    exact ⟨w13.heap.size, rfl, rfl, ⟨blk_new w13 _, is_below (is_below hi12 k13) (below_alloc (Below.refl _ _) _), blk_alloc (blk_below T12.out k13) _, blk_alloc (blk_below C12.out k13) _, below_alloc (below_step hb12 k13) _⟩⟩
                  · go_wp2_with fail
                    go_meet
                    exact ⟨w12.heap.size, rfl, rfl, ⟨blk_put (blk_put ZC.out 0 _ rfl) 1 _ rfl, is_far (is_far (is_below hi12 k13) HZ12.out.2.2.1) HZ12.out.2.2.1, far1 (far1 (blk_below T12.out k13) HZ12.out.1) HZ12.out.1, far1 (far1 (blk_below C12.out k13) HZ12.out.2.1) HZ12.out.2.1, below_set (below_set (below_step hb12 k13) HZ12.out.2.2.2) HZ12.out.2.2.2⟩⟩
                  · go_wp2_with fail
                    go_meet
                    exact ⟨w11.heap.size, rfl, rfl, ⟨blk_put (blk_put ZC.out 0 _ rfl) 1 _ rfl, is_far (is_far (is_below hi12 k13) HZ11.out.2.2.1.symm) HZ11.out.2.2.1.symm, far1 (far1 (blk_below T12.out k13) HZ11.out.1) HZ11.out.1, far1 (far1 (blk_below C12.out k13) HZ11.out.2.1) HZ11.out.2.1, below_set (below_set (below_step hb12 k13) HZ11.out.2.2.2) HZ11.out.2.2.2⟩⟩
                case rest =>
                  obtain ⟨z9, rfl, rfl, HZZ⟩ := hcut
                  have a0 := (blk_cell HZZ.out.1 0).trans (show _ = some (Value.int .i64 (L2 - lo)) from rfl)
                  have a1 := (blk_cell HZZ.out.1 1).trans (show _ = some (Value.int .i64 (H2 - hi)) from rfl)
                  have d3 : decide ((on + off) < L2 - lo) = false := decide_eq_false (by have := HAG.out.2.1; omega)
                  have d4 : decide (H2 - hi < (on + off)) = false := decide_eq_false (by have := HAG.out.2.2; omega)
                  clear I11 B11 T11 C11
                  go_wp2_with fail
                  go_roundw
                  case rel => exact ⟨k + 1, L2, H2, E2, lo, hi, ep, (on + off), by omega, rfl, rfl, by go_num, HSN, ⟨HZZ.out.2.1⟩, ⟨HZZ.out.2.2.1⟩, ⟨HZZ.out.2.2.2.1⟩, ⟨HZZ.out.2.2.2.2⟩⟩
                  case measure => simp [intOf]; omega
              · have d2 : decide ((1099511627776 : Int) ≤ H2) = true := decide_eq_true (by omega)
                go_wp2_with fail
                change (_ : Act → World → Prop) (Act.put _ _ (Value.int .i64 H2)) _
                go_wp2_with fail
                go_roundw
                case rel => exact ⟨k + 1, L2, H2, E2, lo, hi, ep, (on + off), by omega, rfl, rfl, by go_num, HSN, I11, T11, C11, B11⟩
                case measure => simp [intOf]; omega
            · have d1 : (E2 != ep) = true := by simp [he]
              clear he
              go_wp2_with fail
              go_roundw
              case rel => exact ⟨k + 1, L2, H2, E2, lo, hi, ep, (on + off), by omega, rfl, rfl, by go_num, HSN, I10, T10, C10, B10⟩
              case measure => simp [intOf]; omega
          · go_wp2_with fail
            refine (remanence_Clock_Off.calls g _ _ ep x y _ _ _ _ w _ I8.out B8.out (off_tells _ _ ep x y HV2.out HXY.out)).mono ?_
            rintro ee w9 ⟨rfl, hi9, hb9, hk9⟩
            have HS9 := Aside0.mk (show Cst (clamp (clamp (lo + on) + x)) (clamp (clamp (hi + on) + y)) ep lo hi ep (on + off) by have h := HS6.out.1.off (off := off) o0 HXY.out HXO.out (HOY.out (by simp)); first | exact h | (rw [Int.zero_add] at h; exact h))
            have hE2 : ep ≤ k + 1 := by have := HS6.out.2.2.2; omega
            have T9 := Aside0.mk (keep_blk T8.out hk9 HN.out.2.1)
            have C9 := Aside0.mk (keep_blk C8.out hk9 HN.out.1)
            have P9 := Aside0.mk (keep_blk P8.out hk9 HPG.out.1)
            have B9 := Aside0.mk hb9
            obtain ⟨L2, H2, E2, I9, S9, hE⟩ : ∃ L2 H2 E2, Aside0 (IsS36 w w9 g L2 H2 E2) ∧ Aside0 (Cst L2 H2 E2 lo hi ep (on + off)) ∧ E2 ≤ k + 1 := ⟨_, _, _, ⟨hi9⟩, HS9, hE2⟩
            have HSN := Aside0.mk (show Cst L2 H2 E2 lo hi ep (on + off) ∧ (0 : Int) ≤ (on + off) ∧ (on + off) ≤ ((k + 1 : Nat) : Int) * 8589934590 ∧ E2 ≤ ((k + 1 : Nat) : Int) from ⟨S9.out, by omega, by have := HS6.out.2.2.1; push_cast; omega, by push_cast; omega⟩)
            clear hi9 hb9 hk9 HS9 hE2 I8 B8 T8 C8 P8 X8 x0 x1 HS6 HV2 HE HXO HOY HXY HM S9
            have q0 : w9.cell? ⟨gp, 0, none⟩ = some (.int .u32 on) := (blk_cell P9.out 0).trans rfl
            have q1 : w9.cell? ⟨gp, 1, none⟩ = some (.int .u32 off) := (blk_cell P9.out 1).trans rfl
            go_wp2_with fail
            refine (remanence_Clock_Epoch.calls g L2 H2 E2 _ _ _ _ w _ I9.out B9.out rfl).mono ?_
            rintro ee w10 ⟨rfl, hi10, hb10, hk10⟩
            have I10 := Aside0.mk hi10
            have B10 := Aside0.mk hb10
            have T10 := Aside0.mk (keep_blk T9.out hk10 HN.out.2.1)
            have C10 := Aside0.mk (keep_blk C9.out hk10 HN.out.1)
            clear hi10 hb10 hk10 I9 B9 T9 C9 P9 q0 q1
            by_cases he : E2 = ep
            · have d1 : (E2 != ep) = false := by simp [he]
              have HEQ := Aside0.mk he
              clear he
              go_wp2_with fail
              refine (remanence_Clock_Now.calls g L2 H2 E2 _ _ _ _ _ w _ I10.out B10.out rfl).mono ?_
              rintro ee w11 ⟨rfl, hi11, hb11, hk11⟩
              have I11 := Aside0.mk hi11
              have B11 := Aside0.mk hb11
              have T11 := Aside0.mk (keep_blk T10.out hk11 HN.out.2.1)
              have C11 := Aside0.mk (keep_blk C10.out hk11 HN.out.1)
              clear hi11 hb11 hk11 I10 B10 T10 C10
              by_cases hm : H2 < 1099511627776
              · have d2 : decide ((1099511627776 : Int) ≤ H2) = false := decide_eq_false (by omega)
                have HAG := Aside0.mk (show remanence_Age.f L2 H2 lo hi = some (L2 - lo, H2 - hi, 0) ∧ L2 - lo ≤ (on + off) ∧ (on + off) ≤ H2 - hi from by have h := HSN.out.1; rw [← HEQ.out] at h; exact h.age hm)
                go_wp2_with fail
                change (_ : Act → World → Prop) (Act.put _ _ (Value.int .i64 H2)) _
                go_wp2_with fail
                go_cut [16, 17] (fun s16 s17 wx => ∃ z : Nat, s16 = .pointer (some ⟨z, 0, none⟩) ∧ s17 = .int .i64 0 ∧ Aside0 (wx.heap[z]? = some (.cells #[.int .i64 (L2 - lo), .int .i64 (H2 - hi)] 25 (0, 0)) ∧ IsS36 w wx g L2 H2 E2 ∧ wx.heap[gt]? = some (.cells #[.int .i64 lo, .int .i64 hi] 25 (0, 0)) ∧ wx.heap[gc]? = some (.cells #[.int .i64 e, .int .i64 s] 23 (0, 0)) ∧ Below w.heap.size w wx))
                case first =>
                  have s11 := tm (w := w11.drew) T11.out
                  have HZ11 := Aside0.mk (show gt ≠ w11.heap.size ∧ gc ≠ w11.heap.size ∧ w11.heap.size ≠ g ∧ w.heap.size ≤ w11.heap.size by have := blk_lt T11.out; have := blk_lt C11.out; have := blk_lt I11.out.1; have := B11.out.size; omega)
                  go_region_held3 (fun w' => w'.cell? ⟨gt, 0, none⟩ = some (.int .i64 lo) ∧ w'.cell? ⟨gt, 1, none⟩ = some (.int .i64 hi)) (first | (with_reducible exact s13) | (with_reducible exact tm_set s13 HZ11.out.1) | (with_reducible exact tm_set s13 HZ12.out.1) | (with_reducible exact s12) | (with_reducible exact s11) | (with_reducible exact tm_below s13 (below_alloc (Below.refl _ _) _)) | (with_reducible exact tm_below s12 (below_alloc (Below.refl _ _) _)) | (with_reducible exact tm_below s11 (below_alloc (Below.refl _ _) _)) | (trace_state; fail))
                    (first
                      | (go_at_call 18; refine (remanence_Clock_Now.calls g L2 H2 E2 _ _ _ _ _ w _ ?sI ?sB rfl).mono ?_; (case sI => first | exact is_below I11.out (below_drew (Below.refl _ _)) | exact is_below I11.out (below_alloc (below_drew (Below.refl _ _)) _)); (case sB => first | exact below_step B11.out (below_drew (Below.refl _ _)) | exact below_step B11.out (below_alloc (below_drew (Below.refl _ _)) _)); rintro ee w12 ⟨rfl, hi12, hb12, hk12⟩; have T12 := Aside0.mk (show w12.heap[gt]? = some (.cells #[.int .i64 lo, .int .i64 hi] 25 (0, 0)) from by first | exact keep_blk (blk_drew T11.out) hk12 HN.out.2.1 | exact keep_blk (blk_alloc (blk_drew T11.out) _) hk12 HN.out.2.1); have C12 := Aside0.mk (show w12.heap[gc]? = some (.cells #[.int .i64 e, .int .i64 s] 23 (0, 0)) from by first | exact keep_blk (blk_drew C11.out) hk12 HN.out.1 | exact keep_blk (blk_alloc (blk_drew C11.out) _) hk12 HN.out.1); have s12 := tm T12.out; (try (have zb : w12.heap[w11.heap.size]? = some (.cells #[.int .i64 0, .int .i64 0] 25 (0, 0)) := keep_blk (show (w11.drew.alloc (.cells #[.int .i64 0, .int .i64 0] 25)).heap[w11.heap.size]? = _ from blk_new w11.drew _) hk12 HZ11.out.2.2.1)); have HZ12 := Aside0.mk (show gt ≠ w12.heap.size ∧ gc ≠ w12.heap.size ∧ g ≠ w12.heap.size ∧ w.heap.size ≤ w12.heap.size by have := blk_lt T12.out; have := blk_lt C12.out; have := blk_lt hi12.1; have := hb12.size; omega))
                      | (go_at_call 15; refine (remanence_Age.calls L2 H2 lo hi _ _ 0 _ HAG.out.1).mono ?_; rintro ee w13 ⟨rfl, hb13⟩; have k13 : Below w12.heap.size w12 w13 := (by first | exact hb13 | exact Below.trans (below_alloc (Below.refl _ _) _) (hb13.mono (by simp))); have s13 := tm_below s12 k13; (try (have zc : w13.heap[w11.heap.size]? = some (.cells #[.int .i64 0, .int .i64 0] 25 (0, 0)) := blk_below zb hb13)); (try (have zc : w13.heap[w12.heap.size]? = some (.cells #[.int .i64 0, .int .i64 0] 25 (0, 0)) := blk_below (blk_new w12 _) hb13)); (try (have z0 := (blk_cell zc 0).trans (show _ = some (Value.int .i64 0) from rfl); have z1 := (blk_cell zc 1).trans (show _ = some (Value.int .i64 0) from rfl); have y0 := blk_frozen zc 0; have y1 := blk_frozen zc 1; have ZC := Aside0.mk zc; clear zc))))
                  · go_wp2_with fail
                    go_meet
                    exact ⟨w13.heap.size, rfl, rfl, ⟨blk_new w13 _, is_below (is_below hi12 k13) (below_alloc (Below.refl _ _) _), blk_alloc (blk_below T12.out k13) _, blk_alloc (blk_below C12.out k13) _, below_alloc (below_step hb12 k13) _⟩⟩
                  · go_wp2_with fail
                    go_meet
                    exact ⟨w12.heap.size, rfl, rfl, ⟨blk_put (blk_put ZC.out 0 _ rfl) 1 _ rfl, is_far (is_far (is_below hi12 k13) HZ12.out.2.2.1) HZ12.out.2.2.1, far1 (far1 (blk_below T12.out k13) HZ12.out.1) HZ12.out.1, far1 (far1 (blk_below C12.out k13) HZ12.out.2.1) HZ12.out.2.1, below_set (below_set (below_step hb12 k13) HZ12.out.2.2.2) HZ12.out.2.2.2⟩⟩
                  · go_wp2_with fail
                    go_meet
                    exact ⟨w11.heap.size, rfl, rfl, ⟨blk_put (blk_put ZC.out 0 _ rfl) 1 _ rfl, is_far (is_far (is_below hi12 k13) HZ11.out.2.2.1.symm) HZ11.out.2.2.1.symm, far1 (far1 (blk_below T12.out k13) HZ11.out.1) HZ11.out.1, far1 (far1 (blk_below C12.out k13) HZ11.out.2.1) HZ11.out.2.1, below_set (below_set (below_step hb12 k13) HZ11.out.2.2.2) HZ11.out.2.2.2⟩⟩
                case rest =>
                  obtain ⟨z9, rfl, rfl, HZZ⟩ := hcut
                  have a0 := (blk_cell HZZ.out.1 0).trans (show _ = some (Value.int .i64 (L2 - lo)) from rfl)
                  have a1 := (blk_cell HZZ.out.1 1).trans (show _ = some (Value.int .i64 (H2 - hi)) from rfl)
                  have d3 : decide ((on + off) < L2 - lo) = false := decide_eq_false (by have := HAG.out.2.1; omega)
                  have d4 : decide (H2 - hi < (on + off)) = false := decide_eq_false (by have := HAG.out.2.2; omega)
                  clear I11 B11 T11 C11
                  go_wp2_with fail
                  go_roundw
                  case rel => exact ⟨k + 1, L2, H2, E2, lo, hi, ep, (on + off), by omega, rfl, rfl, by go_num, HSN, ⟨HZZ.out.2.1⟩, ⟨HZZ.out.2.2.1⟩, ⟨HZZ.out.2.2.2.1⟩, ⟨HZZ.out.2.2.2.2⟩⟩
                  case measure => simp [intOf]; omega
              · have d2 : decide ((1099511627776 : Int) ≤ H2) = true := decide_eq_true (by omega)
                go_wp2_with fail
                change (_ : Act → World → Prop) (Act.put _ _ (Value.int .i64 H2)) _
                go_wp2_with fail
                go_roundw
                case rel => exact ⟨k + 1, L2, H2, E2, lo, hi, ep, (on + off), by omega, rfl, rfl, by go_num, HSN, I11, T11, C11, B11⟩
                case measure => simp [intOf]; omega
            · have d1 : (E2 != ep) = true := by simp [he]
              clear he
              go_wp2_with fail
              go_roundw
              case rel => exact ⟨k + 1, L2, H2, E2, lo, hi, ep, (on + off), by omega, rfl, rfl, by go_num, HSN, I10, T10, C10, B10⟩
              case measure => simp [intOf]; omega
      · have f1 : decide ((k : Int) = fr) = false := decide_eq_false hf
        go_wp2_with fail
        have HS6 := HS'
        obtain ⟨W, hW⟩ : ∃ W, W = wr.alloc (.cells #[.int .u32 on, .int .u32 off] 52) := ⟨_, rfl⟩
        rw [← hW] at I3 B3 T3 C3 P3 ⊢
        have I6 := I3
        have B6 := B3
        have T6 := T3
        have C6 := C3
        have P6 := P3
        generalize wr.heap.size = gp at *
        clear hW HS' I3 B3 T3 C3 P3 HI' HB' HT' HC' r0 r1 f1 hf
        go_cut [13, 14, 15] (fun s13 s14 s15 wx => ∃ z : Nat, s13 = .pointer (some ⟨z, 0, none⟩) ∧ s14 = .bool ok ∧ s15 = .int .i64 0 ∧ Aside0 (wx.heap[z]? = some (.cells #[.int .i64 x, .int .i64 y] 25 (0, 0)) ∧ W.heap.size ≤ z ∧ Below W.heap.size W wx))
        case first =>
          have HWR := Aside0.mk (show IntKind.i64.wrap off = off from Go.IntWalk.i64_in off ⟨by omega, by omega⟩)
          have s4 := lm (w := W.drew) C6.out P6.out
          have HZ4 := Aside0.mk (show gc ≠ W.heap.size ∧ gp ≠ W.heap.size by have := blk_lt C6.out; have := blk_lt P6.out; omega)
          go_region_held3 (fun w' => w'.cell? ⟨gc, 0, none⟩ = some (.int .i64 e) ∧ w'.cell? ⟨gc, 1, none⟩ = some (.int .i64 s) ∧ w'.cell? ⟨gp, 1, none⟩ = some (.int .u32 off)) (first | (with_reducible exact s6) | (with_reducible exact lm_set s6 HZ4.out.1 HZ4.out.2) | (with_reducible exact lm_set s6 HZ5.out.1 HZ5.out.2) | (with_reducible exact s5) | (with_reducible exact s4) | (with_reducible exact lm_below s6 (below_alloc (Below.refl _ _) _)) | (with_reducible exact lm_below s5 (below_alloc (Below.refl _ _) _)) | (with_reducible exact lm_below s4 (below_alloc (Below.refl _ _) _)) | (trace_state; fail))
            (first
              | (go_at_call 11; refine (tricklelaw09_own.calls e s e s _ rfl).mono ?_; rintro ee w5 ⟨rfl, hb5⟩; have k5 : Below W.heap.size W w5 := (by first | exact Below.trans (below_drew (Below.refl _ _)) hb5 | exact Below.trans (below_alloc (below_drew (Below.refl _ _)) _) (hb5.mono (by simp))); have s5 := lm_below (w := W) s4 k5; (try (have zb : w5.heap[W.heap.size]? = some (.cells #[.int .i64 0, .int .i64 0] 25 (0, 0)) := blk_below (show (W.drew.alloc (.cells #[.int .i64 0, .int .i64 0] 25)).heap[W.heap.size]? = _ from blk_new W.drew _) hb5)); have HZ5 := Aside0.mk (show gc ≠ w5.heap.size ∧ gp ≠ w5.heap.size by have := k5.size; have := blk_lt C6.out; have := blk_lt P6.out; omega))
              | (go_at_call 10; rw [HWR.out]; refine (remanence_Measure.calls 1 e s off x y ok 0 _ HM.out).mono ?_; rintro ee w6 ⟨rfl, hb6⟩; have k6 : Below w5.heap.size w5 w6 := (by first | exact hb6 | exact Below.trans (below_alloc (Below.refl _ _) _) (hb6.mono (by simp))); have s6 := lm_below s5 k6; (try (have zc : w6.heap[W.heap.size]? = some (.cells #[.int .i64 0, .int .i64 0] 25 (0, 0)) := blk_below zb hb6)); (try (have zc : w6.heap[w5.heap.size]? = some (.cells #[.int .i64 0, .int .i64 0] 25 (0, 0)) := blk_below (blk_new w5 _) hb6)); (try (have z0 := (blk_cell zc 0).trans (show _ = some (Value.int .i64 0) from rfl); have z1 := (blk_cell zc 1).trans (show _ = some (Value.int .i64 0) from rfl); have y0 := blk_frozen zc 0; have y1 := blk_frozen zc 1; have ZC := Aside0.mk zc; clear zc))))
          · go_wp2_with fail
            go_meet
            exact ⟨w6.heap.size, rfl, rfl, rfl, ⟨blk_new w6 _, Nat.le_trans k5.size k6.size, below_alloc (below_step k5 k6) _⟩⟩
          · go_wp2_with fail
            go_meet
            exact ⟨w5.heap.size, rfl, rfl, rfl, ⟨blk_put (blk_put ZC.out 0 _ rfl) 1 _ rfl, k5.size, below_set (below_set (below_step k5 k6) k5.size) k5.size⟩⟩
          · go_wp2_with fail
            go_meet
            exact ⟨W.heap.size, rfl, rfl, rfl, ⟨blk_put (blk_put ZC.out 0 _ rfl) 1 _ rfl, Nat.le_refl _, below_set (below_set (below_step k5 k6) (Nat.le_refl _)) (Nat.le_refl _)⟩⟩
        case rest =>
          obtain ⟨z, rfl, rfl, rfl, HZ⟩ := hcut
          have I7 := Aside0.mk (is_below I6.out HZ.out.2.2)
          have B7 := Aside0.mk (below_step B6.out HZ.out.2.2)
          have T7 := Aside0.mk (blk_below T6.out HZ.out.2.2)
          have C7 := Aside0.mk (blk_below C6.out HZ.out.2.2)
          have P7 := Aside0.mk (blk_below P6.out HZ.out.2.2)
          have HZG := Aside0.mk (show z ≠ g by have := blk_lt I6.out.1; have := HZ.out.2.1; omega)
          have p0 : wc.cell? ⟨gp, 0, none⟩ = some (.int .u32 on) := (blk_cell P7.out 0).trans rfl
          have hv1 : 0 ≤ lo ∧ lo ≤ hi ∧ hi ≤ 1099511627776 := ⟨HS6.out.1.1, HS6.out.1.2.1, HS6.out.1.2.2.1⟩
          have HV2 := Aside0.mk (show 0 ≤ clamp (lo + on) ∧ clamp (lo + on) ≤ clamp (hi + on) ∧ clamp (hi + on) ≤ 1099511627776 by unfold clamp; (repeat' split) <;> omega)
          have HRun := Aside0.mk (run_tells lo hi ep on hv1 o0 o1)
          have HE := Aside0.mk (show 0 ≤ ep ∧ ep ≤ 100 from ⟨HS6.out.1.2.2.2.1, by have := HS6.out.2.2.2; omega⟩)
          clear hv1 I6 B6 T6 C6 P6
          go_wp2_with fail
          refine (remanence_Clock_Run.calls g lo hi ep on _ _ _ _ w _ I7.out B7.out HRun.out).mono ?_
          rintro ee w8 ⟨rfl, hi8, hb8, hk8⟩
          have I8 := Aside0.mk hi8
          have B8 := Aside0.mk hb8
          have T8 := Aside0.mk (keep_blk T7.out hk8 HN.out.2.1)
          have C8 := Aside0.mk (keep_blk C7.out hk8 HN.out.1)
          have P8 := Aside0.mk (keep_blk P7.out hk8 HPG.out.1)
          have X8 := Aside0.mk (keep_blk HZ.out.1 hk8 HZG.out)
          clear hi8 hb8 hk8 I7 B7 T7 C7 P7 HZ HRun p0
          have x0 : w8.cell? ⟨z, 0, none⟩ = some (.int .i64 x) := (blk_cell X8.out 0).trans rfl
          have x1 : w8.cell? ⟨z, 1, none⟩ = some (.int .i64 y) := (blk_cell X8.out 1).trans rfl
          have hP0 : (0 : Int) ≤ P := HS6.out.2.1
          have hP1 : P ≤ 515396075400 := by have := HS6.out.2.2.1; omega
          cases ok
          · go_wp2_with fail
            refine (remanence_Clock_Saturate.calls g _ _ ep x y _ _ _ _ w _ I8.out B8.out (sat_tells _ _ ep x y HV2.out HXY.out HE.out.1 HE.out.2)).mono ?_
            rintro ee w9 ⟨rfl, hi9, hb9, hk9⟩
            have HS9 := Aside0.mk (show Cst (clamp (clamp (lo + on) + x)) (clamp (clamp (lo + on) + x)) (ep + 1) tlo thi epoch (P + (on + off)) by have h := HS6.out.1.sat (off := off) o0 HXY.out; first | exact h | (rw [Int.zero_add] at h; exact h))
            have hE2 : ep + 1 ≤ k + 1 := by have := HS6.out.2.2.2; omega
            have T9 := Aside0.mk (keep_blk T8.out hk9 HN.out.2.1)
            have C9 := Aside0.mk (keep_blk C8.out hk9 HN.out.1)
            have P9 := Aside0.mk (keep_blk P8.out hk9 HPG.out.1)
            have B9 := Aside0.mk hb9
            obtain ⟨L2, H2, E2, I9, S9, hE⟩ : ∃ L2 H2 E2, Aside0 (IsS36 w w9 g L2 H2 E2) ∧ Aside0 (Cst L2 H2 E2 tlo thi epoch (P + (on + off))) ∧ E2 ≤ k + 1 := ⟨_, _, _, ⟨hi9⟩, HS9, hE2⟩
            have HSN := Aside0.mk (show Cst L2 H2 E2 tlo thi epoch (P + (on + off)) ∧ (0 : Int) ≤ (P + (on + off)) ∧ (P + (on + off)) ≤ ((k + 1 : Nat) : Int) * 8589934590 ∧ E2 ≤ ((k + 1 : Nat) : Int) from ⟨S9.out, by omega, by have := HS6.out.2.2.1; push_cast; omega, by push_cast; omega⟩)
            clear hi9 hb9 hk9 HS9 hE2 I8 B8 T8 C8 P8 X8 x0 x1 HS6 HV2 HE HXO HOY HXY HM S9
            have q0 : w9.cell? ⟨gp, 0, none⟩ = some (.int .u32 on) := (blk_cell P9.out 0).trans rfl
            have q1 : w9.cell? ⟨gp, 1, none⟩ = some (.int .u32 off) := (blk_cell P9.out 1).trans rfl
            have hkf : ¬ (k : Int) < fr ∨ (k : Int) < fr := (Classical.em _).symm
            rcases hkf with hkf | hkf
            · have f2 : decide ((k : Int) < fr) = false := decide_eq_false hkf
              clear hkf
              go_wp2_with fail
              refine (remanence_Clock_Epoch.calls g L2 H2 E2 _ _ _ _ w _ I9.out B9.out rfl).mono ?_
              rintro ee w10 ⟨rfl, hi10, hb10, hk10⟩
              have I10 := Aside0.mk hi10
              have B10 := Aside0.mk hb10
              have T10 := Aside0.mk (keep_blk T9.out hk10 HN.out.2.1)
              have C10 := Aside0.mk (keep_blk C9.out hk10 HN.out.1)
              clear hi10 hb10 hk10 I9 B9 T9 C9 P9 q0 q1
              by_cases he : E2 = epoch
              · have d1 : (E2 != epoch) = false := by simp [he]
                have HEQ := Aside0.mk he
                clear he
                go_wp2_with fail
                refine (remanence_Clock_Now.calls g L2 H2 E2 _ _ _ _ _ w _ I10.out B10.out rfl).mono ?_
                rintro ee w11 ⟨rfl, hi11, hb11, hk11⟩
                have I11 := Aside0.mk hi11
                have B11 := Aside0.mk hb11
                have T11 := Aside0.mk (keep_blk T10.out hk11 HN.out.2.1)
                have C11 := Aside0.mk (keep_blk C10.out hk11 HN.out.1)
                clear hi11 hb11 hk11 I10 B10 T10 C10
                by_cases hm : H2 < 1099511627776
                · have d2 : decide ((1099511627776 : Int) ≤ H2) = false := decide_eq_false (by omega)
                  have HAG := Aside0.mk (show remanence_Age.f L2 H2 tlo thi = some (L2 - tlo, H2 - thi, 0) ∧ L2 - tlo ≤ (P + (on + off)) ∧ (P + (on + off)) ≤ H2 - thi from by have h := HSN.out.1; rw [← HEQ.out] at h; exact h.age hm)
                  go_wp2_with fail
                  change (_ : Act → World → Prop) (Act.put _ _ (Value.int .i64 H2)) _
                  go_wp2_with fail
                  go_cut [16, 17] (fun s16 s17 wx => ∃ z : Nat, s16 = .pointer (some ⟨z, 0, none⟩) ∧ s17 = .int .i64 0 ∧ Aside0 (wx.heap[z]? = some (.cells #[.int .i64 (L2 - tlo), .int .i64 (H2 - thi)] 25 (0, 0)) ∧ IsS36 w wx g L2 H2 E2 ∧ wx.heap[gt]? = some (.cells #[.int .i64 tlo, .int .i64 thi] 25 (0, 0)) ∧ wx.heap[gc]? = some (.cells #[.int .i64 e, .int .i64 s] 23 (0, 0)) ∧ Below w.heap.size w wx))
                  case first =>
                    have s11 := tm (w := w11.drew) T11.out
                    have HZ11 := Aside0.mk (show gt ≠ w11.heap.size ∧ gc ≠ w11.heap.size ∧ w11.heap.size ≠ g ∧ w.heap.size ≤ w11.heap.size by have := blk_lt T11.out; have := blk_lt C11.out; have := blk_lt I11.out.1; have := B11.out.size; omega)
                    go_region_held3 (fun w' => w'.cell? ⟨gt, 0, none⟩ = some (.int .i64 tlo) ∧ w'.cell? ⟨gt, 1, none⟩ = some (.int .i64 thi)) (first | (with_reducible exact s13) | (with_reducible exact tm_set s13 HZ11.out.1) | (with_reducible exact tm_set s13 HZ12.out.1) | (with_reducible exact s12) | (with_reducible exact s11) | (with_reducible exact tm_below s13 (below_alloc (Below.refl _ _) _)) | (with_reducible exact tm_below s12 (below_alloc (Below.refl _ _) _)) | (with_reducible exact tm_below s11 (below_alloc (Below.refl _ _) _)) | (trace_state; fail))
                      (first
                        | (go_at_call 18; refine (remanence_Clock_Now.calls g L2 H2 E2 _ _ _ _ _ w _ ?sI ?sB rfl).mono ?_; (case sI => first | exact is_below I11.out (below_drew (Below.refl _ _)) | exact is_below I11.out (below_alloc (below_drew (Below.refl _ _)) _)); (case sB => first | exact below_step B11.out (below_drew (Below.refl _ _)) | exact below_step B11.out (below_alloc (below_drew (Below.refl _ _)) _)); rintro ee w12 ⟨rfl, hi12, hb12, hk12⟩; have T12 := Aside0.mk (show w12.heap[gt]? = some (.cells #[.int .i64 tlo, .int .i64 thi] 25 (0, 0)) from by first | exact keep_blk (blk_drew T11.out) hk12 HN.out.2.1 | exact keep_blk (blk_alloc (blk_drew T11.out) _) hk12 HN.out.2.1); have C12 := Aside0.mk (show w12.heap[gc]? = some (.cells #[.int .i64 e, .int .i64 s] 23 (0, 0)) from by first | exact keep_blk (blk_drew C11.out) hk12 HN.out.1 | exact keep_blk (blk_alloc (blk_drew C11.out) _) hk12 HN.out.1); have s12 := tm T12.out; (try (have zb : w12.heap[w11.heap.size]? = some (.cells #[.int .i64 0, .int .i64 0] 25 (0, 0)) := keep_blk (show (w11.drew.alloc (.cells #[.int .i64 0, .int .i64 0] 25)).heap[w11.heap.size]? = _ from blk_new w11.drew _) hk12 HZ11.out.2.2.1)); have HZ12 := Aside0.mk (show gt ≠ w12.heap.size ∧ gc ≠ w12.heap.size ∧ g ≠ w12.heap.size ∧ w.heap.size ≤ w12.heap.size by have := blk_lt T12.out; have := blk_lt C12.out; have := blk_lt hi12.1; have := hb12.size; omega))
                        | (go_at_call 15; refine (remanence_Age.calls L2 H2 tlo thi _ _ 0 _ HAG.out.1).mono ?_; rintro ee w13 ⟨rfl, hb13⟩; have k13 : Below w12.heap.size w12 w13 := (by first | exact hb13 | exact Below.trans (below_alloc (Below.refl _ _) _) (hb13.mono (by simp))); have s13 := tm_below s12 k13; (try (have zc : w13.heap[w11.heap.size]? = some (.cells #[.int .i64 0, .int .i64 0] 25 (0, 0)) := blk_below zb hb13)); (try (have zc : w13.heap[w12.heap.size]? = some (.cells #[.int .i64 0, .int .i64 0] 25 (0, 0)) := blk_below (blk_new w12 _) hb13)); (try (have z0 := (blk_cell zc 0).trans (show _ = some (Value.int .i64 0) from rfl); have z1 := (blk_cell zc 1).trans (show _ = some (Value.int .i64 0) from rfl); have y0 := blk_frozen zc 0; have y1 := blk_frozen zc 1; have ZC := Aside0.mk zc; clear zc))))
                    · go_wp2_with fail
                      go_meet
                      exact ⟨w13.heap.size, rfl, rfl, ⟨blk_new w13 _, is_below (is_below hi12 k13) (below_alloc (Below.refl _ _) _), blk_alloc (blk_below T12.out k13) _, blk_alloc (blk_below C12.out k13) _, below_alloc (below_step hb12 k13) _⟩⟩
                    · go_wp2_with fail
                      go_meet
                      exact ⟨w12.heap.size, rfl, rfl, ⟨blk_put (blk_put ZC.out 0 _ rfl) 1 _ rfl, is_far (is_far (is_below hi12 k13) HZ12.out.2.2.1) HZ12.out.2.2.1, far1 (far1 (blk_below T12.out k13) HZ12.out.1) HZ12.out.1, far1 (far1 (blk_below C12.out k13) HZ12.out.2.1) HZ12.out.2.1, below_set (below_set (below_step hb12 k13) HZ12.out.2.2.2) HZ12.out.2.2.2⟩⟩
                    · go_wp2_with fail
                      go_meet
                      exact ⟨w11.heap.size, rfl, rfl, ⟨blk_put (blk_put ZC.out 0 _ rfl) 1 _ rfl, is_far (is_far (is_below hi12 k13) HZ11.out.2.2.1.symm) HZ11.out.2.2.1.symm, far1 (far1 (blk_below T12.out k13) HZ11.out.1) HZ11.out.1, far1 (far1 (blk_below C12.out k13) HZ11.out.2.1) HZ11.out.2.1, below_set (below_set (below_step hb12 k13) HZ11.out.2.2.2) HZ11.out.2.2.2⟩⟩
                  case rest =>
                    obtain ⟨z9, rfl, rfl, HZZ⟩ := hcut
                    have a0 := (blk_cell HZZ.out.1 0).trans (show _ = some (Value.int .i64 (L2 - tlo)) from rfl)
                    have a1 := (blk_cell HZZ.out.1 1).trans (show _ = some (Value.int .i64 (H2 - thi)) from rfl)
                    have d3 : decide ((P + (on + off)) < L2 - tlo) = false := decide_eq_false (by have := HAG.out.2.1; omega)
                    have d4 : decide (H2 - thi < (P + (on + off))) = false := decide_eq_false (by have := HAG.out.2.2; omega)
                    clear I11 B11 T11 C11
                    go_wp2_with fail
                    go_roundw
                    case rel => exact ⟨k + 1, L2, H2, E2, tlo, thi, epoch, (P + (on + off)), by omega, rfl, rfl, by go_num, HSN, ⟨HZZ.out.2.1⟩, ⟨HZZ.out.2.2.1⟩, ⟨HZZ.out.2.2.2.1⟩, ⟨HZZ.out.2.2.2.2⟩⟩
                    case measure => simp [intOf]; omega
                · have d2 : decide ((1099511627776 : Int) ≤ H2) = true := decide_eq_true (by omega)
                  go_wp2_with fail
                  change (_ : Act → World → Prop) (Act.put _ _ (Value.int .i64 H2)) _
                  go_wp2_with fail
                  go_roundw
                  case rel => exact ⟨k + 1, L2, H2, E2, tlo, thi, epoch, (P + (on + off)), by omega, rfl, rfl, by go_num, HSN, I11, T11, C11, B11⟩
                  case measure => simp [intOf]; omega
              · have d1 : (E2 != epoch) = true := by simp [he]
                clear he
                go_wp2_with fail
                go_roundw
                case rel => exact ⟨k + 1, L2, H2, E2, tlo, thi, epoch, (P + (on + off)), by omega, rfl, rfl, by go_num, HSN, I10, T10, C10, B10⟩
                case measure => simp [intOf]; omega
            · have f2 : decide ((k : Int) < fr) = true := decide_eq_true hkf
              clear hkf
              go_wp2_with fail
              go_roundw
              case rel => exact ⟨k + 1, L2, H2, E2, tlo, thi, epoch, (P + (on + off)), by omega, rfl, rfl, by go_num, HSN, I9, T9, C9, B9⟩
              case measure => simp [intOf]; omega
          · go_wp2_with fail
            refine (remanence_Clock_Off.calls g _ _ ep x y _ _ _ _ w _ I8.out B8.out (off_tells _ _ ep x y HV2.out HXY.out)).mono ?_
            rintro ee w9 ⟨rfl, hi9, hb9, hk9⟩
            have HS9 := Aside0.mk (show Cst (clamp (clamp (lo + on) + x)) (clamp (clamp (hi + on) + y)) ep tlo thi epoch (P + (on + off)) by have h := HS6.out.1.off (off := off) o0 HXY.out HXO.out (HOY.out (by simp)); first | exact h | (rw [Int.zero_add] at h; exact h))
            have hE2 : ep ≤ k + 1 := by have := HS6.out.2.2.2; omega
            have T9 := Aside0.mk (keep_blk T8.out hk9 HN.out.2.1)
            have C9 := Aside0.mk (keep_blk C8.out hk9 HN.out.1)
            have P9 := Aside0.mk (keep_blk P8.out hk9 HPG.out.1)
            have B9 := Aside0.mk hb9
            obtain ⟨L2, H2, E2, I9, S9, hE⟩ : ∃ L2 H2 E2, Aside0 (IsS36 w w9 g L2 H2 E2) ∧ Aside0 (Cst L2 H2 E2 tlo thi epoch (P + (on + off))) ∧ E2 ≤ k + 1 := ⟨_, _, _, ⟨hi9⟩, HS9, hE2⟩
            have HSN := Aside0.mk (show Cst L2 H2 E2 tlo thi epoch (P + (on + off)) ∧ (0 : Int) ≤ (P + (on + off)) ∧ (P + (on + off)) ≤ ((k + 1 : Nat) : Int) * 8589934590 ∧ E2 ≤ ((k + 1 : Nat) : Int) from ⟨S9.out, by omega, by have := HS6.out.2.2.1; push_cast; omega, by push_cast; omega⟩)
            clear hi9 hb9 hk9 HS9 hE2 I8 B8 T8 C8 P8 X8 x0 x1 HS6 HV2 HE HXO HOY HXY HM S9
            have q0 : w9.cell? ⟨gp, 0, none⟩ = some (.int .u32 on) := (blk_cell P9.out 0).trans rfl
            have q1 : w9.cell? ⟨gp, 1, none⟩ = some (.int .u32 off) := (blk_cell P9.out 1).trans rfl
            have hkf : ¬ (k : Int) < fr ∨ (k : Int) < fr := (Classical.em _).symm
            rcases hkf with hkf | hkf
            · have f2 : decide ((k : Int) < fr) = false := decide_eq_false hkf
              clear hkf
              go_wp2_with fail
              refine (remanence_Clock_Epoch.calls g L2 H2 E2 _ _ _ _ w _ I9.out B9.out rfl).mono ?_
              rintro ee w10 ⟨rfl, hi10, hb10, hk10⟩
              have I10 := Aside0.mk hi10
              have B10 := Aside0.mk hb10
              have T10 := Aside0.mk (keep_blk T9.out hk10 HN.out.2.1)
              have C10 := Aside0.mk (keep_blk C9.out hk10 HN.out.1)
              clear hi10 hb10 hk10 I9 B9 T9 C9 P9 q0 q1
              by_cases he : E2 = epoch
              · have d1 : (E2 != epoch) = false := by simp [he]
                have HEQ := Aside0.mk he
                clear he
                go_wp2_with fail
                refine (remanence_Clock_Now.calls g L2 H2 E2 _ _ _ _ _ w _ I10.out B10.out rfl).mono ?_
                rintro ee w11 ⟨rfl, hi11, hb11, hk11⟩
                have I11 := Aside0.mk hi11
                have B11 := Aside0.mk hb11
                have T11 := Aside0.mk (keep_blk T10.out hk11 HN.out.2.1)
                have C11 := Aside0.mk (keep_blk C10.out hk11 HN.out.1)
                clear hi11 hb11 hk11 I10 B10 T10 C10
                by_cases hm : H2 < 1099511627776
                · have d2 : decide ((1099511627776 : Int) ≤ H2) = false := decide_eq_false (by omega)
                  have HAG := Aside0.mk (show remanence_Age.f L2 H2 tlo thi = some (L2 - tlo, H2 - thi, 0) ∧ L2 - tlo ≤ (P + (on + off)) ∧ (P + (on + off)) ≤ H2 - thi from by have h := HSN.out.1; rw [← HEQ.out] at h; exact h.age hm)
                  go_wp2_with fail
                  change (_ : Act → World → Prop) (Act.put _ _ (Value.int .i64 H2)) _
                  go_wp2_with fail
                  go_cut [16, 17] (fun s16 s17 wx => ∃ z : Nat, s16 = .pointer (some ⟨z, 0, none⟩) ∧ s17 = .int .i64 0 ∧ Aside0 (wx.heap[z]? = some (.cells #[.int .i64 (L2 - tlo), .int .i64 (H2 - thi)] 25 (0, 0)) ∧ IsS36 w wx g L2 H2 E2 ∧ wx.heap[gt]? = some (.cells #[.int .i64 tlo, .int .i64 thi] 25 (0, 0)) ∧ wx.heap[gc]? = some (.cells #[.int .i64 e, .int .i64 s] 23 (0, 0)) ∧ Below w.heap.size w wx))
                  case first =>
                    have s11 := tm (w := w11.drew) T11.out
                    have HZ11 := Aside0.mk (show gt ≠ w11.heap.size ∧ gc ≠ w11.heap.size ∧ w11.heap.size ≠ g ∧ w.heap.size ≤ w11.heap.size by have := blk_lt T11.out; have := blk_lt C11.out; have := blk_lt I11.out.1; have := B11.out.size; omega)
                    go_region_held3 (fun w' => w'.cell? ⟨gt, 0, none⟩ = some (.int .i64 tlo) ∧ w'.cell? ⟨gt, 1, none⟩ = some (.int .i64 thi)) (first | (with_reducible exact s13) | (with_reducible exact tm_set s13 HZ11.out.1) | (with_reducible exact tm_set s13 HZ12.out.1) | (with_reducible exact s12) | (with_reducible exact s11) | (with_reducible exact tm_below s13 (below_alloc (Below.refl _ _) _)) | (with_reducible exact tm_below s12 (below_alloc (Below.refl _ _) _)) | (with_reducible exact tm_below s11 (below_alloc (Below.refl _ _) _)) | (trace_state; fail))
                      (first
                        | (go_at_call 18; refine (remanence_Clock_Now.calls g L2 H2 E2 _ _ _ _ _ w _ ?sI ?sB rfl).mono ?_; (case sI => first | exact is_below I11.out (below_drew (Below.refl _ _)) | exact is_below I11.out (below_alloc (below_drew (Below.refl _ _)) _)); (case sB => first | exact below_step B11.out (below_drew (Below.refl _ _)) | exact below_step B11.out (below_alloc (below_drew (Below.refl _ _)) _)); rintro ee w12 ⟨rfl, hi12, hb12, hk12⟩; have T12 := Aside0.mk (show w12.heap[gt]? = some (.cells #[.int .i64 tlo, .int .i64 thi] 25 (0, 0)) from by first | exact keep_blk (blk_drew T11.out) hk12 HN.out.2.1 | exact keep_blk (blk_alloc (blk_drew T11.out) _) hk12 HN.out.2.1); have C12 := Aside0.mk (show w12.heap[gc]? = some (.cells #[.int .i64 e, .int .i64 s] 23 (0, 0)) from by first | exact keep_blk (blk_drew C11.out) hk12 HN.out.1 | exact keep_blk (blk_alloc (blk_drew C11.out) _) hk12 HN.out.1); have s12 := tm T12.out; (try (have zb : w12.heap[w11.heap.size]? = some (.cells #[.int .i64 0, .int .i64 0] 25 (0, 0)) := keep_blk (show (w11.drew.alloc (.cells #[.int .i64 0, .int .i64 0] 25)).heap[w11.heap.size]? = _ from blk_new w11.drew _) hk12 HZ11.out.2.2.1)); have HZ12 := Aside0.mk (show gt ≠ w12.heap.size ∧ gc ≠ w12.heap.size ∧ g ≠ w12.heap.size ∧ w.heap.size ≤ w12.heap.size by have := blk_lt T12.out; have := blk_lt C12.out; have := blk_lt hi12.1; have := hb12.size; omega))
                        | (go_at_call 15; refine (remanence_Age.calls L2 H2 tlo thi _ _ 0 _ HAG.out.1).mono ?_; rintro ee w13 ⟨rfl, hb13⟩; have k13 : Below w12.heap.size w12 w13 := (by first | exact hb13 | exact Below.trans (below_alloc (Below.refl _ _) _) (hb13.mono (by simp))); have s13 := tm_below s12 k13; (try (have zc : w13.heap[w11.heap.size]? = some (.cells #[.int .i64 0, .int .i64 0] 25 (0, 0)) := blk_below zb hb13)); (try (have zc : w13.heap[w12.heap.size]? = some (.cells #[.int .i64 0, .int .i64 0] 25 (0, 0)) := blk_below (blk_new w12 _) hb13)); (try (have z0 := (blk_cell zc 0).trans (show _ = some (Value.int .i64 0) from rfl); have z1 := (blk_cell zc 1).trans (show _ = some (Value.int .i64 0) from rfl); have y0 := blk_frozen zc 0; have y1 := blk_frozen zc 1; have ZC := Aside0.mk zc; clear zc))))
                    · go_wp2_with fail
                      go_meet
                      exact ⟨w13.heap.size, rfl, rfl, ⟨blk_new w13 _, is_below (is_below hi12 k13) (below_alloc (Below.refl _ _) _), blk_alloc (blk_below T12.out k13) _, blk_alloc (blk_below C12.out k13) _, below_alloc (below_step hb12 k13) _⟩⟩
                    · go_wp2_with fail
                      go_meet
                      exact ⟨w12.heap.size, rfl, rfl, ⟨blk_put (blk_put ZC.out 0 _ rfl) 1 _ rfl, is_far (is_far (is_below hi12 k13) HZ12.out.2.2.1) HZ12.out.2.2.1, far1 (far1 (blk_below T12.out k13) HZ12.out.1) HZ12.out.1, far1 (far1 (blk_below C12.out k13) HZ12.out.2.1) HZ12.out.2.1, below_set (below_set (below_step hb12 k13) HZ12.out.2.2.2) HZ12.out.2.2.2⟩⟩
                    · go_wp2_with fail
                      go_meet
                      exact ⟨w11.heap.size, rfl, rfl, ⟨blk_put (blk_put ZC.out 0 _ rfl) 1 _ rfl, is_far (is_far (is_below hi12 k13) HZ11.out.2.2.1.symm) HZ11.out.2.2.1.symm, far1 (far1 (blk_below T12.out k13) HZ11.out.1) HZ11.out.1, far1 (far1 (blk_below C12.out k13) HZ11.out.2.1) HZ11.out.2.1, below_set (below_set (below_step hb12 k13) HZ11.out.2.2.2) HZ11.out.2.2.2⟩⟩
                  case rest =>
                    obtain ⟨z9, rfl, rfl, HZZ⟩ := hcut
                    have a0 := (blk_cell HZZ.out.1 0).trans (show _ = some (Value.int .i64 (L2 - tlo)) from rfl)
                    have a1 := (blk_cell HZZ.out.1 1).trans (show _ = some (Value.int .i64 (H2 - thi)) from rfl)
                    have d3 : decide ((P + (on + off)) < L2 - tlo) = false := decide_eq_false (by have := HAG.out.2.1; omega)
                    have d4 : decide (H2 - thi < (P + (on + off))) = false := decide_eq_false (by have := HAG.out.2.2; omega)
                    clear I11 B11 T11 C11
                    go_wp2_with fail
                    go_roundw
                    case rel => exact ⟨k + 1, L2, H2, E2, tlo, thi, epoch, (P + (on + off)), by omega, rfl, rfl, by go_num, HSN, ⟨HZZ.out.2.1⟩, ⟨HZZ.out.2.2.1⟩, ⟨HZZ.out.2.2.2.1⟩, ⟨HZZ.out.2.2.2.2⟩⟩
                    case measure => simp [intOf]; omega
                · have d2 : decide ((1099511627776 : Int) ≤ H2) = true := decide_eq_true (by omega)
                  go_wp2_with fail
                  change (_ : Act → World → Prop) (Act.put _ _ (Value.int .i64 H2)) _
                  go_wp2_with fail
                  go_roundw
                  case rel => exact ⟨k + 1, L2, H2, E2, tlo, thi, epoch, (P + (on + off)), by omega, rfl, rfl, by go_num, HSN, I11, T11, C11, B11⟩
                  case measure => simp [intOf]; omega
              · have d1 : (E2 != epoch) = true := by simp [he]
                clear he
                go_wp2_with fail
                go_roundw
                case rel => exact ⟨k + 1, L2, H2, E2, tlo, thi, epoch, (P + (on + off)), by omega, rfl, rfl, by go_num, HSN, I10, T10, C10, B10⟩
                case measure => simp [intOf]; omega
            · have f2 : decide ((k : Int) < fr) = true := decide_eq_true hkf
              clear hkf
              go_wp2_with fail
              go_roundw
              case rel => exact ⟨k + 1, L2, H2, E2, tlo, thi, epoch, (P + (on + off)), by omega, rfl, rfl, by go_num, HSN, I9, T9, C9, B9⟩
              case measure => simp [intOf]; omega
    · go_wp2
      go_ret
      exact ⟨rfl, HB'.out⟩
end Go.Proofs.Ytdklncgijnhodaa.ConLaw
