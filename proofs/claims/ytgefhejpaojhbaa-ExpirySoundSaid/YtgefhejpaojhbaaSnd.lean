/-
  ExpirySound: whatever the configuration, the power failures and the limit.
-/
import Derived.Test.YtgefhejpaojhbaaSndOut
namespace Go.Proofs.Ytgefhejpaojhbaa.Snd
open Go.RowKit Go.ChangeShapes Go.WideShapes Go.ChangeAt Go.Proofs.Ytgefhejpaojhbaa.Open Go.Proofs.YtgefhejpaojhbaaW.PrintWords Go.Proofs.YtgefhejpaojhbaaW.PrintLast
variable {H : Type} {enc : TypeId × Value → H}
set_option maxHeartbeats 4000000 in
set_option maxRecDepth 100000 in
theorem calls (e s most : Int) (a : Option Addr) (cap : Nat) (xs : List (Int × Int)) (w : World) (hr : Kd.C (Kd.pair (Kd.int .u16) (Kd.int .u16)) w a xs.length xs) (hx : ∀ x ∈ xs, (0 ≤ x.1 ∧ x.1 ≤ 65535) ∧ (0 ≤ x.2 ∧ x.2 ≤ 65535)) :
    Calls Try.prog 3 #[.agg #[.int .i64 e, .int .i64 s], .slice a xs.length cap, .int .i64 most] w fun e w' => e = .returned (.bool true) ∧ Below w.heap.size w w' := by
  have HR := Aside0.mk hr
  have HX := Aside0.mk hx
  clear hr hx
  by_cases hR : 0 ≤ e ∧ e ≤ 500 ∧ 1 ≤ s ∧ s ≤ 1099511627776
  · have hr := right_tells e s
    rw [decide_eq_true hR] at hr
    have HRt := Aside0.mk hr
    have HRR := Aside0.mk hR
    clear hr hR
    by_cases hg : ¬ (xs.length : Int) > 60 ∧ ¬ most < 0 ∧ ¬ most > 1099511627776
    · obtain ⟨g1, g2, g3⟩ := hg
      have c1 : decide ((60 : Int) < (xs.length : Int)) = false := decide_eq_false g1
      have c1' : decide (60 < xs.length) = false := decide_eq_false (by omega)
      have c2 : decide (most < 0) = false := decide_eq_false g2
      have c3 : decide ((1099511627776 : Int) < most) = false := decide_eq_false g3
      have G := Aside0.mk (show xs.length ≤ 60 ∧ 0 ≤ most ∧ most ≤ 1099511627776 by omega)
      clear g1 g2 g3
      go_enter Try.func3, Try.ntmps3
      go_wp2_with fail
      refine (Pr.tricklelaw41_examples.calls true _ rfl).mono ?_
      rintro ee w1 ⟨rfl, hb1⟩
      have BK := blk_below (blk_new w (.cells #[.int .i64 e, .int .i64 s] 23)) hb1
      have k0 : w1.cell? ⟨w.heap.size, 0, none⟩ = some (.int .i64 e) := (blk_cell BK 0).trans rfl
      have k1 : w1.cell? ⟨w.heap.size, 1, none⟩ = some (.int .i64 s) := (blk_cell BK 1).trans rfl
      have BKc := Aside0.mk BK
      have HB1 := Aside0.mk (below_step (below_alloc (Below.refl w.heap.size w) _) hb1)
      clear BK hb1
      go_wp2_with fail
      refine (Ps.trickleref09_Right.calls _ _ _ _ HRt.out).mono ?_
      rintro ee w2 ⟨rfl, hb2⟩
      have BK2 := Aside0.mk (blk_below BKc.out hb2)
      have HB2 := Aside0.mk (below_step HB1.out hb2)
      clear BKc HB1 hb2 k0 k1
      go_wp2
      have I1 : Ps.IsS30 w (w2.alloc (.cells #[.int .i64 0, .int .i64 0, .int .i64 0] 30)) w2.heap.size 0 0 0 := ⟨blk_new _ _, HB2.out.size⟩
      have HI := Aside0.mk I1
      have HB := Aside0.mk (below_alloc HB2.out (.cells #[.int .i64 0, .int .i64 0, .int .i64 0] 30))
      have HC := Aside0.mk (blk_alloc BK2.out (.cells #[.int .i64 0, .int .i64 0, .int .i64 0] 30))
      have HN := Aside0.mk (show w.heap.size ≠ w2.heap.size by have := blk_lt BK2.out; omega)
      clear I1 BK2 HB2
      go_loopw [8, 39] (fun p i wr => ∃ (k : Nat) (lo hi ep P : Int), k ≤ xs.length ∧ i = .int .i64 k ∧ p = .int .i64 P ∧ Aside0 (St lo hi ep P ∧ 0 ≤ P ∧ P ≤ k * 131070 ∧ ep ≤ k) ∧ Aside0 (Ps.IsS30 w wr w2.heap.size lo hi ep) ∧ Aside0 (Below w.heap.size w wr) ∧ Aside0 (wr.heap[w.heap.size]? = some (.cells #[.int .i64 e, .int .i64 s] 23 (0, 0)))) (fun _ i _ => xs.length - (intOf i).toNat)
      case atStart => exact ⟨0, 0, 0, 0, 0, Nat.zero_le _, rfl, rfl, ⟨⟨by unfold St; omega, by omega, by omega, by omega⟩⟩, HI, HB, HC⟩
      case round =>
        obtain ⟨k, lo, hi, ep, P, hk, rfl, rfl, HS', HI', HB', HC'⟩ := hrel
        have hlen : xs.length ≤ 60 := G.out.1
        by_cases hlt : k < xs.length
        · obtain ⟨_, _, hc⟩ := HR.out
          obtain ⟨ad, ha, hc⟩ := hc (by omega)
          obtain ⟨c, _, hK, hcell⟩ := hc k _ (List.getElem?_eq_getElem hlt)
          have hK' : c = [.int .u16 xs[k].1, .int .u16 xs[k].2] := by
            obtain ⟨q1, q2, rfl, h1, h2⟩ := hK
            obtain rfl : q1 = [.int .u16 xs[k].1] := h1
            obtain rfl : q2 = [.int .u16 xs[k].2] := h2
            rfl
          subst hK'
          have hcw0 : w.cell? (ad.add (k * 2)) = some (.int .u16 xs[k].1) := hcell 0 _ rfl
          have hcw1 : w.cell? ⟨(ad.add (k * 2)).block, (ad.add (k * 2)).off + 1, none⟩ = some (.int .u16 xs[k].2) := by
            rw [← add_field _ _ 1 (by omega)]
            exact hcell 1 _ rfl
          have hcr0 := pw_cell_below HB'.out hcw0
          have hcr1 := pw_cell_below HB'.out hcw1
          have hb := HX.out _ (List.getElem_mem hlt)
          generalize hx : xs[k] = x at *
          obtain ⟨on, off⟩ := x
          clear hx hcell hc hcw0 hcw1 hK
          subst ha
          have o0 : 0 ≤ on := hb.1.1
          have o1 : on ≤ 65535 := hb.1.2
          have o2 : 0 ≤ off := hb.2.1
          have o3 : off ≤ 65535 := hb.2.2
          obtain ⟨x, y, ok, hm, hxy, hxo, hoy⟩ := measure_has e s off HRR.out o2 o3
          have HM := Aside0.mk hm
          have HXY := Aside0.mk hxy
          have HXO := Aside0.mk hxo
          have HOY := Aside0.mk hoy
          clear hm hxy hxo hoy hb
          have HLT := Aside0.mk HI'.out.lt
          have e0 : (wr.alloc (.cells #[.int .u16 on, .int .u16 off] 33)).cell? ⟨w.heap.size, 0, none⟩ = some (.int .i64 e) := (blk_cell (blk_alloc HC'.out _) 0).trans rfl
          have e1 : (wr.alloc (.cells #[.int .u16 on, .int .u16 off] 33)).cell? ⟨w.heap.size, 1, none⟩ = some (.int .i64 s) := (blk_cell (blk_alloc HC'.out _) 1).trans rfl
          go_wp2_with fail
          refine (Ps.remanence_Measure.calls 1 _ _ _ _ _ _ _ _ HM.out).mono ?_
          rintro ee w3 ⟨rfl, hb3⟩
          have BP : w3.heap[wr.heap.size]? = some (.cells #[.int .u16 on, .int .u16 off] 33 (0, 0)) := blk_below (blk_new wr _) hb3
          have BPc := Aside0.mk BP
          have I3 := Aside0.mk ((HI'.out.alloc (.cells #[.int .u16 on, .int .u16 off] 33)).below hb3)
          have B3 := Aside0.mk (below_step (below_alloc HB'.out (.cells #[.int .u16 on, .int .u16 off] 33)) hb3)
          have C3 := Aside0.mk (blk_below (blk_alloc HC'.out (.cells #[.int .u16 on, .int .u16 off] 33)) hb3)
          have p0 : (w3.alloc (.cells #[.int .i64 x, .int .i64 y] 28)).cell? ⟨wr.heap.size, 0, none⟩ = some (.int .u16 on) := (blk_cell (blk_alloc BP _) 0).trans rfl
          clear BP hb3 HI' HB' HC' hcr0 hcr1 e0 e1
          go_wp2_with fail
          have hlt1 : w2.heap.size < wr.heap.size := HLT.out
          have N1 := Aside0.mk (show wr.heap.size ≠ w2.heap.size by omega)
          have N2 := Aside0.mk (show w3.heap.size ≠ w2.heap.size by have := I3.out.lt; omega)
          have hv1 : 0 ≤ lo ∧ lo ≤ hi ∧ hi ≤ 1099511627776 := ⟨HS'.out.1.1, HS'.out.1.2.1, HS'.out.1.2.2.1⟩
          have hv2 : 0 ≤ clamp (lo + on) ∧ clamp (lo + on) ≤ clamp (hi + on) ∧ clamp (hi + on) ≤ 1099511627776 := by unfold clamp; (repeat' split) <;> omega
          have HV2 := Aside0.mk hv2
          have hRun := run_tells lo hi ep on hv1 o0 o1
          clear hlt1 hv1 hv2
          refine (Ps.remanence_Clock_Run.calls _ lo hi ep on _ _ _ _ w _ (I3.out.alloc _) (below_alloc B3.out _) hRun).mono ?_
          rintro ee w4 ⟨rfl, hi4, hb4, hk4⟩
          have I4 := Aside0.mk hi4
          have B4 := Aside0.mk hb4
          have P4 := Aside0.mk (hk4.blk (blk_alloc BPc.out _) N1.out (by simp))
          have X4 := Aside0.mk (hk4.blk (blk_new w3 (.cells #[.int .i64 x, .int .i64 y] 28)) N2.out (by simp))
          have C4 := Aside0.mk (hk4.blk (blk_alloc C3.out _) HN.out (by simp))
          clear hRun hi4 hb4 hk4 I3 B3 BPc C3 p0
          have x0 : w4.cell? ⟨w3.heap.size, 0, none⟩ = some (.int .i64 x) := (blk_cell X4.out 0).trans rfl
          have x1 : w4.cell? ⟨w3.heap.size, 1, none⟩ = some (.int .i64 y) := (blk_cell X4.out 1).trans rfl
          have hP0 : 0 ≤ P := HS'.out.2.1
          have hP1 : P ≤ 7864200 := by have := HS'.out.2.2.1; omega
          cases ok
          · go_wp2_with fail
            refine (Ps.remanence_Clock_Saturate.calls _ _ _ ep x y _ _ _ _ w _ I4.out B4.out (sat_tells _ _ ep x y HV2.out HXY.out HS'.out.1.2.2.2.1 (by have := HS'.out.2.2.2; omega))).mono ?_
            rintro ee w5 ⟨rfl, hi5, hb5, hk5⟩
            have I5 := Aside0.mk hi5
            have B5 := Aside0.mk hb5
            have P5 := Aside0.mk (hk5.blk P4.out N1.out (by simp))
            have C5 := Aside0.mk (hk5.blk C4.out HN.out (by simp))
            have ST := Aside0.mk (HS'.out.1.sat o0 HXY.out HXO.out)
            clear hi5 hb5 hk5 I4 B4 P4 X4 C4 x0 x1
            have q0 : w5.cell? ⟨wr.heap.size, 0, none⟩ = some (.int .u16 on) := (blk_cell P5.out 0).trans rfl
            have q1 : w5.cell? ⟨wr.heap.size, 1, none⟩ = some (.int .u16 off) := (blk_cell P5.out 1).trans rfl
            obtain ⟨L2, H2, E2, J5, T5, hE⟩ : ∃ L2 H2 E2, Aside0 (Ps.IsS30 w w5 w2.heap.size L2 H2 E2) ∧ Aside0 (St L2 H2 E2 (P + (on + off))) ∧ E2 ≤ k + 1 := ⟨_, _, _, I5, ST, by have := HS'.out.2.2.2; omega⟩
            clear I5 ST
            go_wp2_with fail
            refine (Ps.remanence_Clock_Now.calls _ _ _ _ _ _ _ _ _ w _ J5.out B5.out rfl).mono ?_
            rintro ee w6 ⟨rfl, hi6, hb6, hk6⟩
            have I6 := Aside0.mk hi6
            have B6 := Aside0.mk hb6
            have C6 := Aside0.mk (hk6.blk C5.out HN.out (by simp))
            clear hi6 hb6 hk6 J5 B5 P5 C5 q0 q1
            go_wp2_with fail
            refine (Ps.remanence_Clock_Epoch.calls _ _ _ _ _ _ _ _ w _ I6.out B6.out rfl).mono ?_
            rintro ee w7 ⟨rfl, hi7, hb7, hk7⟩
            have I7 := Aside0.mk hi7
            have B7 := Aside0.mk hb7
            have C7 := Aside0.mk (hk7.blk C6.out HN.out (by simp))
            clear hi7 hb7 hk7 I6 B6 C6
            go_wp2_with fail
            obtain ⟨F, hF⟩ : ∃ F, Plain.usb 0 0 0 L2 H2 E2 0 most = F := ⟨_, rfl⟩
            have HG : F = true → P + (on + off) ≤ most := by
              intro h
              subst h
              simp only [Plain.usb, Plain.stp, Plain.lmt, Plain.mtc, Bool.and_eq_true, decide_eq_true_eq, beq_iff_eq] at hF
              obtain ⟨⟨⟨⟨⟨⟨_, h2⟩, _⟩, _⟩, h5⟩, _⟩, h7⟩ := hF
              have e0 : Int.tmod E2 256 = E2 % 256 := Int.tmod_eq_emod_of_nonneg h2.2.2.2
              rw [e0] at h5
              have e1 : (0 : Int).tmod 256 = 0 := by decide
              rw [e1] at h5
              have := T5.out.2.2.2.2.2 (by omega) h2.2.2.1
              omega
            have hFr : Pr.expiry_Fresh.f 1 0 0 0 L2 H2 E2 most = some F := by rw [Plain.fresh_tells, hF]
            have HG' := Aside0.mk HG
            clear HG hF
            refine (Pr.expiry_Fresh.calls 1 0 0 0 L2 H2 E2 most _ _ hFr).mono ?_
            rintro ee w8 ⟨rfl, hb8⟩
            clear hFr
            have hs7 : (w7.alloc (.cells #[.int .i64 L2, .int .i64 H2, .int .i64 E2] 43)).heap.size = w7.heap.size + 1 := by simp
            have T8 := Aside0.mk (blk_below (blk_alloc (blk_new w7 (.cells #[.int .i64 L2, .int .i64 H2, .int .i64 E2] 43)) (.cells #[.int .i16 1, .int .i64 0, .int .i64 0, .int .i64 0] 46)) hb8)
            have V8 := Aside0.mk (show w8.heap[w7.heap.size + 1]? = some (.cells #[.int .i16 1, .int .i64 0, .int .i64 0, .int .i64 0] 46 (0, 0)) from blk_below (by rw [← hs7]; exact blk_new _ _) hb8)
            have I8 := Aside0.mk (((I7.out.alloc _).alloc _).below hb8)
            have B8 := Aside0.mk (below_step (below_alloc (below_alloc B7.out _) _) hb8)
            have C8 := Aside0.mk (blk_below (blk_alloc (blk_alloc C7.out _) _) hb8)
            clear hs7 hb8 I7 B7 C7
            have t0 : w8.cell? ⟨w7.heap.size, 0, none⟩ = some (.int .i64 L2) := (blk_cell T8.out 0).trans rfl
            have t1 : w8.cell? ⟨w7.heap.size, 1, none⟩ = some (.int .i64 H2) := (blk_cell T8.out 1).trans rfl
            have t2 : w8.cell? ⟨w7.heap.size, 2, none⟩ = some (.int .i64 E2) := (blk_cell T8.out 2).trans rfl
            have v0 : w8.cell? ⟨w7.heap.size + 1, 0, none⟩ = some (.int .i16 1) := (blk_cell V8.out 0).trans rfl
            have v1 : w8.cell? ⟨w7.heap.size + 1, 1, none⟩ = some (.int .i64 0) := (blk_cell V8.out 1).trans rfl
            have v2 : w8.cell? ⟨w7.heap.size + 1, 2, none⟩ = some (.int .i64 0) := (blk_cell V8.out 2).trans rfl
            have v3 : w8.cell? ⟨w7.heap.size + 1, 3, none⟩ = some (.int .i64 0) := (blk_cell V8.out 3).trans rfl
            have k256 : ¬ (E2 ≥ 256) := by omega
            by_cases h0 : E2 = 0
            · by_cases h1 : H2 < 1099511627776
              · cases F
                · go_wp2_with fail
                  obtain ⟨m, hm⟩ : ∃ m, Plain.may 0 0 0 L2 H2 0 most = m := ⟨_, rfl⟩
                  have HMf : m = false → most < P + (on + off) := by
                    intro h
                    subst h
                    have t := T5.out
                    unfold St at t
                    have gg := G.out
                    by_cases z : L2 ≤ most
                    · have : Plain.may 0 0 0 L2 H2 0 most = true := by
                        have s1 : Plain.stp 0 0 0 = true := by decide
                        have s2 : Plain.stp L2 H2 0 = true := by unfold Plain.stp; exact decide_eq_true (by omega)
                        have s3 : Plain.lmt most = true := by unfold Plain.lmt; exact decide_eq_true (by omega)
                        have s4 : decide (L2 - 0 ≤ most) = true := decide_eq_true (by omega)
                        unfold Plain.may
                        rw [s1, s2, s3, s4]
                        simp
                      rw [this] at hm
                      cases hm
                    · omega
                  have hMa : Pr.expiry_MayBeFresh.f 1 0 0 0 L2 H2 0 most = some m := by rw [Plain.may_tells, hm]
                  have HMf' := Aside0.mk HMf
                  clear HMf hm
                  refine (Pr.expiry_MayBeFresh.calls 1 0 0 0 L2 H2 0 most _ _ hMa).mono ?_
                  rintro ee w9 ⟨rfl, hb9⟩
                  clear hMa
                  have t2' : w9.cell? ⟨w7.heap.size, 2, none⟩ = some (.int .i64 E2) := pw_cell_below hb9 t2
                  have I9 := Aside0.mk (I8.out.below hb9)
                  have B9 := Aside0.mk (below_step B8.out hb9)
                  have C9 := Aside0.mk (blk_below C8.out hb9)
                  clear t0 t1 t2 v0 v1 v2 v3 hb9 I8 B8 C8
                  cases m
                  · have hq := HMf'.out rfl
                    go_wp2_with fail
                    go_roundw
                    case rel => exact ⟨k + 1, L2, H2, E2, P + (on + off), by omega, by go_num, rfl, ⟨⟨T5.out, by omega, by have := HS'.out.2.2.1; push_cast; omega, by push_cast; omega⟩⟩, I9, B9, C9⟩
                    case measure => simp [intOf]; omega
                  · go_wp2_with fail
                    go_roundw
                    case rel => exact ⟨k + 1, L2, H2, E2, P + (on + off), by omega, by go_num, rfl, ⟨⟨T5.out, by omega, by have := HS'.out.2.2.1; push_cast; omega, by push_cast; omega⟩⟩, I9, B9, C9⟩
                    case measure => simp [intOf]; omega
                · have hg := HG'.out rfl
                  go_wp2_with fail
                  obtain ⟨m, hm⟩ : ∃ m, Plain.may 0 0 0 L2 H2 0 most = m := ⟨_, rfl⟩
                  have HMf : m = false → most < P + (on + off) := by
                    intro h
                    subst h
                    have t := T5.out
                    unfold St at t
                    have gg := G.out
                    by_cases z : L2 ≤ most
                    · have : Plain.may 0 0 0 L2 H2 0 most = true := by
                        have s1 : Plain.stp 0 0 0 = true := by decide
                        have s2 : Plain.stp L2 H2 0 = true := by unfold Plain.stp; exact decide_eq_true (by omega)
                        have s3 : Plain.lmt most = true := by unfold Plain.lmt; exact decide_eq_true (by omega)
                        have s4 : decide (L2 - 0 ≤ most) = true := decide_eq_true (by omega)
                        unfold Plain.may
                        rw [s1, s2, s3, s4]
                        simp
                      rw [this] at hm
                      cases hm
                    · omega
                  have hMa : Pr.expiry_MayBeFresh.f 1 0 0 0 L2 H2 0 most = some m := by rw [Plain.may_tells, hm]
                  have HMf' := Aside0.mk HMf
                  clear HMf hm
                  refine (Pr.expiry_MayBeFresh.calls 1 0 0 0 L2 H2 0 most _ _ hMa).mono ?_
                  rintro ee w9 ⟨rfl, hb9⟩
                  clear hMa
                  have t2' : w9.cell? ⟨w7.heap.size, 2, none⟩ = some (.int .i64 E2) := pw_cell_below hb9 t2
                  have I9 := Aside0.mk (I8.out.below hb9)
                  have B9 := Aside0.mk (below_step B8.out hb9)
                  have C9 := Aside0.mk (blk_below C8.out hb9)
                  clear t0 t1 t2 v0 v1 v2 v3 hb9 I8 B8 C8
                  cases m
                  · have hq := HMf'.out rfl
                    exfalso
                    omega
                  · go_wp2_with fail
                    go_roundw
                    case rel => exact ⟨k + 1, L2, H2, E2, P + (on + off), by omega, by go_num, rfl, ⟨⟨T5.out, by omega, by have := HS'.out.2.2.1; push_cast; omega, by push_cast; omega⟩⟩, I9, B9, C9⟩
                    case measure => simp [intOf]; omega
              · cases F
                · go_wp2_with fail
                  go_roundw
                  case rel => exact ⟨k + 1, L2, H2, E2, P + (on + off), by omega, by go_num, rfl, ⟨⟨T5.out, by omega, by have := HS'.out.2.2.1; push_cast; omega, by push_cast; omega⟩⟩, I8, B8, C8⟩
                  case measure => simp [intOf]; omega
                · have hg := HG'.out rfl
                  go_wp2_with fail
                  go_roundw
                  case rel => exact ⟨k + 1, L2, H2, E2, P + (on + off), by omega, by go_num, rfl, ⟨⟨T5.out, by omega, by have := HS'.out.2.2.1; push_cast; omega, by push_cast; omega⟩⟩, I8, B8, C8⟩
                  case measure => simp [intOf]; omega
            · cases F
              · go_wp2_with fail
                go_roundw
                case rel => exact ⟨k + 1, L2, H2, E2, P + (on + off), by omega, by go_num, rfl, ⟨⟨T5.out, by omega, by have := HS'.out.2.2.1; push_cast; omega, by push_cast; omega⟩⟩, I8, B8, C8⟩
                case measure => simp [intOf]; omega
              · have hg := HG'.out rfl
                go_wp2_with fail
                go_roundw
                case rel => exact ⟨k + 1, L2, H2, E2, P + (on + off), by omega, by go_num, rfl, ⟨⟨T5.out, by omega, by have := HS'.out.2.2.1; push_cast; omega, by push_cast; omega⟩⟩, I8, B8, C8⟩
                case measure => simp [intOf]; omega
          · go_wp2_with fail
            refine (Ps.remanence_Clock_Off.calls _ _ _ ep x y _ _ _ _ w _ I4.out B4.out (off_tells _ _ ep x y HV2.out HXY.out)).mono ?_
            rintro ee w5 ⟨rfl, hi5, hb5, hk5⟩
            have I5 := Aside0.mk hi5
            have B5 := Aside0.mk hb5
            have P5 := Aside0.mk (hk5.blk P4.out N1.out (by simp))
            have C5 := Aside0.mk (hk5.blk C4.out HN.out (by simp))
            have ST := Aside0.mk (HS'.out.1.off o0 HXY.out HXO.out (HOY.out trivial))
            clear hi5 hb5 hk5 I4 B4 P4 X4 C4 x0 x1
            have q0 : w5.cell? ⟨wr.heap.size, 0, none⟩ = some (.int .u16 on) := (blk_cell P5.out 0).trans rfl
            have q1 : w5.cell? ⟨wr.heap.size, 1, none⟩ = some (.int .u16 off) := (blk_cell P5.out 1).trans rfl
            obtain ⟨L2, H2, E2, J5, T5, hE⟩ : ∃ L2 H2 E2, Aside0 (Ps.IsS30 w w5 w2.heap.size L2 H2 E2) ∧ Aside0 (St L2 H2 E2 (P + (on + off))) ∧ E2 ≤ k + 1 := ⟨_, _, _, I5, ST, by have := HS'.out.2.2.2; omega⟩
            clear I5 ST
            go_wp2_with fail
            refine (Ps.remanence_Clock_Now.calls _ _ _ _ _ _ _ _ _ w _ J5.out B5.out rfl).mono ?_
            rintro ee w6 ⟨rfl, hi6, hb6, hk6⟩
            have I6 := Aside0.mk hi6
            have B6 := Aside0.mk hb6
            have C6 := Aside0.mk (hk6.blk C5.out HN.out (by simp))
            clear hi6 hb6 hk6 J5 B5 P5 C5 q0 q1
            go_wp2_with fail
            refine (Ps.remanence_Clock_Epoch.calls _ _ _ _ _ _ _ _ w _ I6.out B6.out rfl).mono ?_
            rintro ee w7 ⟨rfl, hi7, hb7, hk7⟩
            have I7 := Aside0.mk hi7
            have B7 := Aside0.mk hb7
            have C7 := Aside0.mk (hk7.blk C6.out HN.out (by simp))
            clear hi7 hb7 hk7 I6 B6 C6
            go_wp2_with fail
            obtain ⟨F, hF⟩ : ∃ F, Plain.usb 0 0 0 L2 H2 E2 0 most = F := ⟨_, rfl⟩
            have HG : F = true → P + (on + off) ≤ most := by
              intro h
              subst h
              simp only [Plain.usb, Plain.stp, Plain.lmt, Plain.mtc, Bool.and_eq_true, decide_eq_true_eq, beq_iff_eq] at hF
              obtain ⟨⟨⟨⟨⟨⟨_, h2⟩, _⟩, _⟩, h5⟩, _⟩, h7⟩ := hF
              have e0 : Int.tmod E2 256 = E2 % 256 := Int.tmod_eq_emod_of_nonneg h2.2.2.2
              rw [e0] at h5
              have e1 : (0 : Int).tmod 256 = 0 := by decide
              rw [e1] at h5
              have := T5.out.2.2.2.2.2 (by omega) h2.2.2.1
              omega
            have hFr : Pr.expiry_Fresh.f 1 0 0 0 L2 H2 E2 most = some F := by rw [Plain.fresh_tells, hF]
            have HG' := Aside0.mk HG
            clear HG hF
            refine (Pr.expiry_Fresh.calls 1 0 0 0 L2 H2 E2 most _ _ hFr).mono ?_
            rintro ee w8 ⟨rfl, hb8⟩
            clear hFr
            have hs7 : (w7.alloc (.cells #[.int .i64 L2, .int .i64 H2, .int .i64 E2] 43)).heap.size = w7.heap.size + 1 := by simp
            have T8 := Aside0.mk (blk_below (blk_alloc (blk_new w7 (.cells #[.int .i64 L2, .int .i64 H2, .int .i64 E2] 43)) (.cells #[.int .i16 1, .int .i64 0, .int .i64 0, .int .i64 0] 46)) hb8)
            have V8 := Aside0.mk (show w8.heap[w7.heap.size + 1]? = some (.cells #[.int .i16 1, .int .i64 0, .int .i64 0, .int .i64 0] 46 (0, 0)) from blk_below (by rw [← hs7]; exact blk_new _ _) hb8)
            have I8 := Aside0.mk (((I7.out.alloc _).alloc _).below hb8)
            have B8 := Aside0.mk (below_step (below_alloc (below_alloc B7.out _) _) hb8)
            have C8 := Aside0.mk (blk_below (blk_alloc (blk_alloc C7.out _) _) hb8)
            clear hs7 hb8 I7 B7 C7
            have t0 : w8.cell? ⟨w7.heap.size, 0, none⟩ = some (.int .i64 L2) := (blk_cell T8.out 0).trans rfl
            have t1 : w8.cell? ⟨w7.heap.size, 1, none⟩ = some (.int .i64 H2) := (blk_cell T8.out 1).trans rfl
            have t2 : w8.cell? ⟨w7.heap.size, 2, none⟩ = some (.int .i64 E2) := (blk_cell T8.out 2).trans rfl
            have v0 : w8.cell? ⟨w7.heap.size + 1, 0, none⟩ = some (.int .i16 1) := (blk_cell V8.out 0).trans rfl
            have v1 : w8.cell? ⟨w7.heap.size + 1, 1, none⟩ = some (.int .i64 0) := (blk_cell V8.out 1).trans rfl
            have v2 : w8.cell? ⟨w7.heap.size + 1, 2, none⟩ = some (.int .i64 0) := (blk_cell V8.out 2).trans rfl
            have v3 : w8.cell? ⟨w7.heap.size + 1, 3, none⟩ = some (.int .i64 0) := (blk_cell V8.out 3).trans rfl
            have k256 : ¬ (E2 ≥ 256) := by omega
            by_cases h0 : E2 = 0
            · by_cases h1 : H2 < 1099511627776
              · cases F
                · go_wp2_with fail
                  obtain ⟨m, hm⟩ : ∃ m, Plain.may 0 0 0 L2 H2 0 most = m := ⟨_, rfl⟩
                  have HMf : m = false → most < P + (on + off) := by
                    intro h
                    subst h
                    have t := T5.out
                    unfold St at t
                    have gg := G.out
                    by_cases z : L2 ≤ most
                    · have : Plain.may 0 0 0 L2 H2 0 most = true := by
                        have s1 : Plain.stp 0 0 0 = true := by decide
                        have s2 : Plain.stp L2 H2 0 = true := by unfold Plain.stp; exact decide_eq_true (by omega)
                        have s3 : Plain.lmt most = true := by unfold Plain.lmt; exact decide_eq_true (by omega)
                        have s4 : decide (L2 - 0 ≤ most) = true := decide_eq_true (by omega)
                        unfold Plain.may
                        rw [s1, s2, s3, s4]
                        simp
                      rw [this] at hm
                      cases hm
                    · omega
                  have hMa : Pr.expiry_MayBeFresh.f 1 0 0 0 L2 H2 0 most = some m := by rw [Plain.may_tells, hm]
                  have HMf' := Aside0.mk HMf
                  clear HMf hm
                  refine (Pr.expiry_MayBeFresh.calls 1 0 0 0 L2 H2 0 most _ _ hMa).mono ?_
                  rintro ee w9 ⟨rfl, hb9⟩
                  clear hMa
                  have t2' : w9.cell? ⟨w7.heap.size, 2, none⟩ = some (.int .i64 E2) := pw_cell_below hb9 t2
                  have I9 := Aside0.mk (I8.out.below hb9)
                  have B9 := Aside0.mk (below_step B8.out hb9)
                  have C9 := Aside0.mk (blk_below C8.out hb9)
                  clear t0 t1 t2 v0 v1 v2 v3 hb9 I8 B8 C8
                  cases m
                  · have hq := HMf'.out rfl
                    go_wp2_with fail
                    go_roundw
                    case rel => exact ⟨k + 1, L2, H2, E2, P + (on + off), by omega, by go_num, rfl, ⟨⟨T5.out, by omega, by have := HS'.out.2.2.1; push_cast; omega, by push_cast; omega⟩⟩, I9, B9, C9⟩
                    case measure => simp [intOf]; omega
                  · go_wp2_with fail
                    go_roundw
                    case rel => exact ⟨k + 1, L2, H2, E2, P + (on + off), by omega, by go_num, rfl, ⟨⟨T5.out, by omega, by have := HS'.out.2.2.1; push_cast; omega, by push_cast; omega⟩⟩, I9, B9, C9⟩
                    case measure => simp [intOf]; omega
                · have hg := HG'.out rfl
                  go_wp2_with fail
                  obtain ⟨m, hm⟩ : ∃ m, Plain.may 0 0 0 L2 H2 0 most = m := ⟨_, rfl⟩
                  have HMf : m = false → most < P + (on + off) := by
                    intro h
                    subst h
                    have t := T5.out
                    unfold St at t
                    have gg := G.out
                    by_cases z : L2 ≤ most
                    · have : Plain.may 0 0 0 L2 H2 0 most = true := by
                        have s1 : Plain.stp 0 0 0 = true := by decide
                        have s2 : Plain.stp L2 H2 0 = true := by unfold Plain.stp; exact decide_eq_true (by omega)
                        have s3 : Plain.lmt most = true := by unfold Plain.lmt; exact decide_eq_true (by omega)
                        have s4 : decide (L2 - 0 ≤ most) = true := decide_eq_true (by omega)
                        unfold Plain.may
                        rw [s1, s2, s3, s4]
                        simp
                      rw [this] at hm
                      cases hm
                    · omega
                  have hMa : Pr.expiry_MayBeFresh.f 1 0 0 0 L2 H2 0 most = some m := by rw [Plain.may_tells, hm]
                  have HMf' := Aside0.mk HMf
                  clear HMf hm
                  refine (Pr.expiry_MayBeFresh.calls 1 0 0 0 L2 H2 0 most _ _ hMa).mono ?_
                  rintro ee w9 ⟨rfl, hb9⟩
                  clear hMa
                  have t2' : w9.cell? ⟨w7.heap.size, 2, none⟩ = some (.int .i64 E2) := pw_cell_below hb9 t2
                  have I9 := Aside0.mk (I8.out.below hb9)
                  have B9 := Aside0.mk (below_step B8.out hb9)
                  have C9 := Aside0.mk (blk_below C8.out hb9)
                  clear t0 t1 t2 v0 v1 v2 v3 hb9 I8 B8 C8
                  cases m
                  · have hq := HMf'.out rfl
                    exfalso
                    omega
                  · go_wp2_with fail
                    go_roundw
                    case rel => exact ⟨k + 1, L2, H2, E2, P + (on + off), by omega, by go_num, rfl, ⟨⟨T5.out, by omega, by have := HS'.out.2.2.1; push_cast; omega, by push_cast; omega⟩⟩, I9, B9, C9⟩
                    case measure => simp [intOf]; omega
              · cases F
                · go_wp2_with fail
                  go_roundw
                  case rel => exact ⟨k + 1, L2, H2, E2, P + (on + off), by omega, by go_num, rfl, ⟨⟨T5.out, by omega, by have := HS'.out.2.2.1; push_cast; omega, by push_cast; omega⟩⟩, I8, B8, C8⟩
                  case measure => simp [intOf]; omega
                · have hg := HG'.out rfl
                  go_wp2_with fail
                  go_roundw
                  case rel => exact ⟨k + 1, L2, H2, E2, P + (on + off), by omega, by go_num, rfl, ⟨⟨T5.out, by omega, by have := HS'.out.2.2.1; push_cast; omega, by push_cast; omega⟩⟩, I8, B8, C8⟩
                  case measure => simp [intOf]; omega
            · cases F
              · go_wp2_with fail
                go_roundw
                case rel => exact ⟨k + 1, L2, H2, E2, P + (on + off), by omega, by go_num, rfl, ⟨⟨T5.out, by omega, by have := HS'.out.2.2.1; push_cast; omega, by push_cast; omega⟩⟩, I8, B8, C8⟩
                case measure => simp [intOf]; omega
              · have hg := HG'.out rfl
                go_wp2_with fail
                go_roundw
                case rel => exact ⟨k + 1, L2, H2, E2, P + (on + off), by omega, by go_num, rfl, ⟨⟨T5.out, by omega, by have := HS'.out.2.2.1; push_cast; omega, by push_cast; omega⟩⟩, I8, B8, C8⟩
                case measure => simp [intOf]; omega
        · go_wp2
          go_ret
          exact ⟨rfl, HB'.out⟩
    · by_cases g1 : (xs.length : Int) > 60
      · exact out1 e s most a xs.length cap w HRR.out g1
      · by_cases g2 : most < 0
        · exact out2 e s most a xs.length cap w HRR.out g1 g2
        · exact out3 e s most a xs.length cap w HRR.out g1 g2 (by omega)
  · exact out0 e s most a xs.length cap w hR
end Go.Proofs.Ytgefhejpaojhbaa.Snd
