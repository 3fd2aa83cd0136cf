/-
  SenderRestart: whatever the window, the retry time and the calls.
-/
import Derived.Test.YtjblfldgeemciaaPollZ
import Derived.Deep.RegionHeld3
set_option linter.unusedVariables false
namespace Go.Proofs.Ytjblfldgeemciaa.RestLaw
open Go.RowKit Go.ChangeShapes Go.WideShapes Go.ChangeAt Go.Maps Go.Proofs.YtjblfldgeemciaaW.PrintWords Go.Proofs.YtjblfldgeemciaaW.PrintLast Go.Proofs.Ytjblfldgeemciaa.Pr Go.Proofs.Ytjblfldgeemciaa.Sd Go.Proofs.Ytjblfldgeemciaa.CallPl Go.Proofs.Ytjblfldgeemciaa.PollZ
theorem equal_self (k s : Int) (l : List Int) : trickleref43_Equal.f k s l k s l = some true := by
  unfold trickleref43_Equal.f
  rw [if_pos rfl, if_pos rfl]
  simp
set_option maxHeartbeats 4000000 in
set_option maxRecDepth 100000 in
theorem calls_in (win retry : Int) (A : Option Addr) (ca : Nat) (xs : List S43) (w : World) (hg : good win retry) (hca : xs.length ≤ ca) (hC : k43.C w A xs.length xs) (hx : ∀ x ∈ xs, Open.SCall x) (hord : tricklelaw45_ordered.f (xs.length + 1) xs = some true) (hl : xs.length ≤ 60) (hasc : Asc (-10) xs) :
    Calls Try.prog 8 #[.int .i64 win, .int .i64 retry, .slice A xs.length ca] w fun e w' => e = .returned (.bool true) ∧ Below w.heap.size w w' := by
  have HC := Aside0.mk hC
  have HG := Aside0.mk hg
  have HO := Aside0.mk hord
  have HX := Aside0.mk hx
  have HA := Aside0.mk (asc_at xs _ hasc)
  clear hC hg hord hx hasc
  go_enter Try.func8, Try.ntmps8
  go_wp2_with fail
  refine (new_good win retry w HG.out).mono ?_
  rintro e w1 ⟨g, b, rfl, hs1, hge, hbe, hb1⟩
  have S1 := Aside0.mk hs1
  have B1 := Aside0.mk hb1
  clear hs1 hb1
  go_wp2_with fail
  refine (examples_any _).mono ?_
  rintro e w2 ⟨rfl, hb2⟩
  have S2 := Aside0.mk (S1.out.below hb2)
  have B2 := Aside0.mk (below_step B1.out hb2)
  clear hb2 S1 B1
  go_wp2_with fail
  refine (tricklelaw45_ordered.calls _ A ca xs _ w2 (Kd.C_below HC.out B2.out) hca HO.out).mono ?_
  rintro e w3 ⟨rfl, hb3⟩
  have S3 := Aside0.mk (S2.out.below hb3)
  have B3 := Aside0.mk (below_step B2.out hb3)
  clear hb3 S2 B2
  go_wp2
  go_loopw [42] (fun ix wr => ∃ (k n : Nat) (F : Int → Option Int), k ≤ xs.length ∧ ix = .int .i64 k ∧ Aside0 (n ≤ 60 * k) ∧ Aside0 (∀ i (h : i < xs.length), i < k → -1099511627776 ≤ xs[i].f2 ∧ xs[i].f2 ≤ 1099511627776) ∧ Aside0 (Snd wr g b win retry n F) ∧ Aside0 (Below w.heap.size w wr)) (fun ix _ => xs.length - (intOf ix).toNat)
  case atStart => exact ⟨0, 0, _, Nat.zero_le _, rfl, ⟨Nat.le_refl _⟩, ⟨fun i h hi => absurd hi (Nat.not_lt_zero _)⟩, S3, B3⟩
  case round =>
    obtain ⟨k, n, F, hk, rfl, HN, HT, HS', HB'⟩ := hrel
    clear S3 B3
    by_cases hlt : k < xs.length
    · have HT2 := HT.out
      obtain ⟨ad, had, h0, h1, h2, h3⟩ := at_T43 HC.out (k : Int) (by omega) (by omega)
      rw [Int.toNat_natCast] at h0 h1 h2 h3
      have hxe : rd_T43 xs (k : Int) = xs[k] := by
        unfold rd_T43
        rw [List.getD_eq_getElem?_getD, Int.toNat_natCast, List.getElem?_eq_getElem hlt]
        rfl
      rw [hxe] at h0 h1 h2 h3
      have hbd := HX.out _ (List.getElem_mem hlt)
      have hbd2 := HA.out _ (List.getElem_mem hlt)
      have hxk : xs[k] = xs[k] := rfl
      generalize hgx : xs[k] = x at *
      have HGX := Aside0.mk hgx
      clear hgx hxk
      obtain ⟨a, cn, t, rs⟩ := x
      have r0 := pw_cell_below HB'.out h0
      have r1 := pw_cell_below HB'.out h1
      have r2 := pw_cell_below HB'.out h2
      have r3 := pw_cell_below HB'.out h3
      obtain ⟨⟨ha1, ha2⟩, ⟨hc1, hc2⟩, ⟨ht1, ht2⟩⟩ := hbd
      have ha3 : a ≤ 2147483648 := hbd2
      simp only at ha1 ha2 hc1 hc2 ht1 ht2 r0 r1 r2 r3
      clear h0 h1 h2 h3 hxe hbd2
      subst had
      by_cases g2 : t > 1099511627776
      · go_wp2
        go_ret
        exact ⟨rfl, by repeat (first | exact HB'.out | apply below_alloc)⟩
      by_cases g3 : t < -1099511627776
      · go_wp2
        go_ret
        exact ⟨rfl, by repeat (first | exact HB'.out | apply below_alloc)⟩
      have d2 : decide ((1099511627776 : Int) < t) = false := decide_eq_false (by omega)
      have d3 : decide (t < -1099511627776) = false := decide_eq_false g3
      have HTK : Aside0 (∀ i (h : i < xs.length), i < k + 1 → -1099511627776 ≤ xs[i].f2 ∧ xs[i].f2 ≤ 1099511627776) := ⟨fun i h hi => by
        by_cases e : i = k
        · subst e
          have := HGX.out
          rw [this]
          exact ⟨by show -1099511627776 ≤ t; omega, by show t ≤ 1099511627776; omega⟩
        · exact HT.out i h (by omega)⟩
      clear HT2 HGX
      go_wp2_with fail
      have S4 := Aside0.mk (HS'.out.alloc (.cells #[.int .i64 a, .int .u8 cn, .int .i64 t, .bool rs] 43))
      have B4 := Aside0.mk (below_alloc HB'.out (.cells #[.int .i64 a, .int .u8 cn, .int .i64 t, .bool rs] 43))
      have T4 := Aside0.mk (blk_new wr (.cells #[.int .i64 a, .int .u8 cn, .int .i64 t, .bool rs] 43))
      have hbb : wr.heap.size ≠ b := by have := HS'.out.ltb; omega
      obtain ⟨W, hW⟩ : ∃ W, wr.alloc (.cells #[.int .i64 a, .int .u8 cn, .int .i64 t, .bool rs] 43) = W := ⟨_, rfl⟩
      rw [hW] at S4 B4 T4 ⊢
      clear hW HS' HB' r0 r1 r2 r3 d2 d3
      have s4 := cs4 T4.out
      have hml : (msgs a cn).length ≤ 50 := by rw [msgs_length]; omega
      have hlz := S4.out.ltb
      go_region_held3 (fun w' => w'.cell? ⟨wr.heap.size, 0, none⟩ = some (.int .i64 a) ∧ w'.cell? ⟨wr.heap.size, 1, none⟩ = some (.int .u8 cn) ∧ w'.cell? ⟨wr.heap.size, 2, none⟩ = some (.int .i64 t) ∧ w'.cell? ⟨wr.heap.size, 3, none⟩ = some (.bool rs)) (first | exact s4 | exact s5 | exact s6)
        (first
          | (go_at_call 16; refine (tricklelaw45_Call_messages.calls 51 a cn t rs _ _ (msgs_tells a cn t rs hc1 hc2)).mono ?_; rintro e w5 ⟨v5, rfl, ho5, hb5⟩; obtain ⟨A5, c5, rfl, hl5, hC5⟩ := Kd.R_reads ho5; have k5 : Below W.heap.size W w5 := (by first | exact hb5 | exact Below.trans (below_drew (Below.refl _ _)) hb5); have s5 := cs4_below s4 k5; have hlz5 : b < w5.heap.size := (by have := k5.size; omega))
          | (go_at_call 17; refine (poll_z g b b n win retry a t A5 _ c5 (msgs a cn) F _ _ _ ?side2 hlz5 HG.out ?side3 ?side4 ?side6 ?side7 ?side8 hl5 rfl rfl rfl).mono ?_; (case side2 => exact S4.out.below k5); (case side3 => exact ⟨by omega, by omega⟩); (case side4 => exact ⟨by omega, by omega⟩); (case side6 => omega); (case side7 => have := HN.out; omega); (case side8 => exact hC5); rintro e w6 ⟨A6, c6, rfl, hR6, hS6, hG6⟩; have s6 := cs4_grown s5 hG6 hbb))
      have S6 := Aside0.mk hS6
      have B6 := Aside0.mk (below_poll (below_step B4.out k5) hG6 hbe)
      clear hS6 hG6 hR6 s4 s5 s6 hb5 k5 ho5 hC5 hl5 S4 B4 T4
      go_wp2
      go_roundw
      case rel => exact ⟨k + 1, n + (msgs a cn).length, _, by omega, by go_num, ⟨by have := HN.out; omega⟩, HTK, S6, B6⟩
      case measure => simp [intOf]; omega
    · have HTA := Aside0.mk (show ∀ i (h : i < xs.length), -1099511627776 ≤ xs[i].f2 ∧ xs[i].f2 ≤ 1099511627776 from fun i h => HT.out i h (by omega))
      clear HT HN
      go_wp2_with fail
      refine (restart_any g b n win retry F wr HS'.out).mono ?_
      rintro e w4 ⟨rfl, hs4, hg4⟩
      have S4 := Aside0.mk hs4
      have B4 := Aside0.mk (below_poll HB'.out hg4 hbe)
      clear hs4 hg4 HS' HB'
      go_wp2_with fail
      refine (new_good win retry w4 HG.out).mono ?_
      rintro e w5 ⟨g2, b2, rfl, hs5, hge2, hbe2, hb5⟩
      have hlg := S4.out.lt
      have hlb := S4.out.ltb
      have hbl2 := hs5.ltb
      have S5 := Aside0.mk (S4.out.below hb5)
      have Q5 := Aside0.mk hs5
      have B5 := Aside0.mk (below_step B4.out hb5)
      have HNE := Aside0.mk (show g2 ≠ b ∧ b2 ≠ b ∧ g ≠ b2 ∧ b ≠ b2 ∧ w.heap.size ≤ b2 by have := B4.out.size; omega)
      clear hs5 hb5 S4 B4 hlg hlb hge2 hbe2 hk hlt
      go_wp2
      go_loopw [75] (fun ix wr => ∃ (k n n2 : Nat) (F : Int → Option Int), k ≤ xs.length ∧ ix = .int .i64 k ∧ Aside0 (n ≤ 60 * k ∧ n2 ≤ 60 * k) ∧ Aside0 (Snd wr g b win retry n F) ∧ Aside0 (Snd wr g2 b2 win retry n2 F) ∧ Aside0 (Below w.heap.size w wr)) (fun ix _ => xs.length - (intOf ix).toNat)
      case atStart => exact ⟨0, 0, 0, _, Nat.zero_le _, rfl, ⟨Nat.le_refl _, Nat.le_refl _⟩, S5, Q5, B5⟩
      case round =>
        obtain ⟨k, n, n2, F, hk, rfl, HN, HS', HQ', HB'⟩ := hrel
        clear S5 Q5 B5
        by_cases hlt : k < xs.length
        · have ht0 := HTA.out k hlt
          obtain ⟨ad, had, h0, h1, h2, h3⟩ := at_T43 HC.out (k : Int) (by omega) (by omega)
          rw [Int.toNat_natCast] at h0 h1 h2 h3
          have hxe : rd_T43 xs (k : Int) = xs[k] := by
            unfold rd_T43
            rw [List.getD_eq_getElem?_getD, Int.toNat_natCast, List.getElem?_eq_getElem hlt]
            rfl
          rw [hxe] at h0 h1 h2 h3
          have hbd := HX.out _ (List.getElem_mem hlt)
          have hbd2 := HA.out _ (List.getElem_mem hlt)
          have hxk : xs[k] = xs[k] := rfl
          generalize hgx : xs[k] = x at *
          have HGX := Aside0.mk hgx
          clear hgx hxk
          obtain ⟨a, cn, t, rs⟩ := x
          have r0 := pw_cell_below HB'.out h0
          have r1 := pw_cell_below HB'.out h1
          have r2 := pw_cell_below HB'.out h2
          have r3 := pw_cell_below HB'.out h3
          obtain ⟨⟨ha1, ha2⟩, ⟨hc1, hc2⟩, ⟨ht1, ht2⟩⟩ := hbd
          have ha3 : a ≤ 2147483648 := hbd2
          simp only at ha1 ha2 hc1 hc2 ht1 ht2 r0 r1 r2 r3
          clear h0 h1 h2 h3 hxe hbd2
          subst had
          have hT1 : -1099511627776 ≤ t ∧ t ≤ 1099511627776 := ht0
          clear HGX ht0
          go_wp2_with fail
          have S4 := Aside0.mk (HS'.out.alloc (.cells #[.int .i64 a, .int .u8 cn, .int .i64 t, .bool rs] 43))
          have Q4 := Aside0.mk (HQ'.out.alloc (.cells #[.int .i64 a, .int .u8 cn, .int .i64 t, .bool rs] 43))
          have B4 := Aside0.mk (below_alloc HB'.out (.cells #[.int .i64 a, .int .u8 cn, .int .i64 t, .bool rs] 43))
          have T4 := Aside0.mk (blk_new wr (.cells #[.int .i64 a, .int .u8 cn, .int .i64 t, .bool rs] 43))
          have hbb : wr.heap.size ≠ b := by have := HS'.out.ltb; omega
          have hbb2 : wr.heap.size ≠ b2 := by have := HQ'.out.ltb; omega
          obtain ⟨W, hW⟩ : ∃ W, wr.alloc (.cells #[.int .i64 a, .int .u8 cn, .int .i64 t, .bool rs] 43) = W := ⟨_, rfl⟩
          rw [hW] at S4 Q4 B4 T4 ⊢
          clear hW HS' HQ' HB' r0 r1 r2 r3
          have s4 := cs4 T4.out
          have hml : (msgs a cn).length ≤ 50 := by rw [msgs_length]; omega
          have hlz := Q4.out.ltb
          obtain ⟨O, hO⟩ : ∃ O, pO F a retry t win (msgs a cn) = O := ⟨_, rfl⟩
          obtain ⟨F', hF'⟩ : ∃ F', pF F a retry t win (msgs a cn).length = F' := ⟨_, rfl⟩
          have HOq := Aside0.mk hO
          have HFq := Aside0.mk hF'
          clear hO hF'
          have tok1 : True := trivial
          go_region_held3 (fun w' => w'.cell? ⟨wr.heap.size, 0, none⟩ = some (.int .i64 a) ∧ w'.cell? ⟨wr.heap.size, 1, none⟩ = some (.int .u8 cn) ∧ w'.cell? ⟨wr.heap.size, 2, none⟩ = some (.int .i64 t) ∧ w'.cell? ⟨wr.heap.size, 3, none⟩ = some (.bool rs)) (first | exact s4 | exact s5 | exact s6 | exact s7 | exact s8)
            (first
              | (go_at_call 16; have _t := tok1; refine (tricklelaw45_Call_messages.calls 51 a cn t rs _ _ (msgs_tells a cn t rs hc1 hc2)).mono ?_; rintro e w5 ⟨v5, rfl, ho5, hb5⟩; obtain ⟨A5, c5, rfl, hl5, hC5⟩ := Kd.R_reads ho5; have k5 : Below W.heap.size W w5 := (by first | exact hb5 | exact Below.trans (below_drew (Below.refl _ _)) hb5); have s5 := cs4_below s4 k5; have hlz5 : b2 < w5.heap.size := (by have := k5.size; omega); clear tok1)
              | (go_at_call 17; (with_reducible refine (poll_z g b b2 n win retry a t A5 _ c5 (msgs a cn) F F' O w5 ?side2 hlz5 HG.out ?side3 ?side4 ?side6 ?side7 ?side8 hl5 rfl HOq.out HFq.out).mono ?_); (case side2 => exact S4.out.below k5); (case side3 => exact hT1); (case side4 => exact ⟨by omega, by omega⟩); (case side6 => omega); (case side7 => have := HN.out.1; omega); (case side8 => exact hC5); rintro e w6 ⟨A6, c6, rfl, hR6, hS6, hG6⟩; have s6 := cs4_grown s5 hG6 hbb)
              | (go_at_call 16; refine (tricklelaw45_Call_messages.calls 51 a cn t rs _ _ (msgs_tells a cn t rs hc1 hc2)).mono ?_; rintro e w7 ⟨v7, rfl, ho7, hb7⟩; obtain ⟨A7, c7, rfl, hl7, hC7⟩ := Kd.R_reads ho7; have s7 := cs4_below s6 hb7; have hlz7 : b2 < w7.heap.size := (by have := hb7.size; have := hG6.size; omega))
              | (go_at_call 17; (with_reducible refine (poll_z g2 b2 b2 n2 win retry a t A7 _ c7 (msgs a cn) F F' O w7 ?side12 hlz7 HG.out ?side13 ?side14 ?side16 ?side17 ?side18 hl7 rfl HOq.out HFq.out).mono ?_); (case side12 => exact (((Q4.out.below k5).grown hG6 (fun e => HNE.out.1 (Option.some.inj e)) (fun e => HNE.out.2.1 (Option.some.inj e))).below hb7)); (case side13 => exact hT1); (case side14 => exact ⟨by omega, by omega⟩); (case side16 => omega); (case side17 => have := HN.out.2; omega); (case side18 => exact hC7); rintro e w8 ⟨A8, c8, rfl, hR8, hS8, hG8⟩; have s8 := cs4_grown s7 hG8 hbb2))
          have S8 := Aside0.mk ((hS6.below hb7).grown hG8 (fun e => HNE.out.2.2.1 (Option.some.inj e)) (fun e => HNE.out.2.2.2.1 (Option.some.inj e)))
          have Q8 := Aside0.mk hS8
          have Ra := Aside0.mk ((hR6.below hb7).mapped hG8)
          have Rb := Aside0.mk hR8
          have B8 := Aside0.mk (below_poll (below_step (below_poll (below_step B4.out k5) hG6 hbe) hb7) hG8 HNE.out.2.2.2.2)
          have hOl : O.length ≤ 50 := by
            rw [← HOq.out]
            unfold pO
            split
            · simp
            · have h1 := outs_length (cut F a) a retry t (msgs a cn) (lim win a (msgs a cn).length)
              have h2 : lim win a (msgs a cn).length ≤ (msgs a cn).length := Nat.min_le_left _ _
              omega
          clear hS6 hS8 hR6 hR8 hb7 hG6 hG8 s4 s5 s6 s7 s8 k5 hb5 ho5 ho7 hC5 hC7 hl5 hl7 S4 Q4 B4 T4 HOq HFq hlz5 hlz7
          go_wp2
          go_loopw [102] (fun ix wr => ∃ j : Nat, j ≤ O.length ∧ ix = .int .i64 j ∧ Aside0 (Below w8.heap.size w8 wr)) (fun ix _ => O.length - (intOf ix).toNat)
          case atStart => exact ⟨0, Nat.zero_le _, rfl, ⟨Below.refl _ _⟩⟩
          case round =>
            obtain ⟨j, hj, rfl, HW⟩ := hrel
            by_cases hjl : j < O.length
            · obtain ⟨ao, A2, c2, hao, f0, f1, f2, hl2, hC2⟩ := at_T24 (Kd.R_reads' Ra.out).2.2 (j : Int) (by omega) (by omega)
              obtain ⟨bo, A3, c3, hbo, g0, g1, g2', hl3, hC3⟩ := at_T24 (Kd.R_reads' Rb.out).2.2 (j : Int) (by omega) (by omega)
              rw [Int.toNat_natCast] at f0 f1 f2 g0 g1 g2'
              generalize rd_T24 O (j : Int) = y at *
              have y0 := pw_cell_below HW.out f0
              have y1 := pw_cell_below HW.out f1
              have y2 := pw_cell_below HW.out f2
              have z0 := pw_cell_below HW.out g0
              have z1 := pw_cell_below HW.out g1
              have z2 := pw_cell_below HW.out g2'
              have HC2 := Aside0.mk (Kd.C_below hC2 HW.out)
              have HC3 := Aside0.mk (Kd.C_below hC3 HW.out)
              clear f0 f1 f2 g0 g1 g2' hC2 hC3
              subst hao
              subst hbo
              have e1 : (j : Int) < (O.length : Int) := by omega
              have e0 : (0 : Int) ≤ (j : Int) := by omega
              go_wp2_with fail
              go_region_held3 (fun w' => w'.cell? (ao.add (j * 3)) = some (.int .i64 y.f0) ∧ w'.cell? ⟨(ao.add (j * 3)).block, (ao.add (j * 3)).off + 1, none⟩ = some (.int .i64 y.f1) ∧ w'.cell? ⟨(ao.add (j * 3)).block, (ao.add (j * 3)).off + 2, none⟩ = some (.slice A2 y.f2.length c2) ∧ w'.cell? (bo.add (j * 3)) = some (.int .i64 y.f0) ∧ w'.cell? ⟨(bo.add (j * 3)).block, (bo.add (j * 3)).off + 1, none⟩ = some (.int .i64 y.f1) ∧ w'.cell? ⟨(bo.add (j * 3)).block, (bo.add (j * 3)).off + 2, none⟩ = some (.slice A3 y.f2.length c3)) (first | exact ⟨y0, y1, y2, z0, z1, z2⟩ | exact ⟨pw_cell_below hb9 y0, pw_cell_below hb9 y1, pw_cell_below hb9 y2, pw_cell_below hb9 z0, pw_cell_below hb9 z1, pw_cell_below hb9 z2⟩)
                (first
                  | (go_at_call 23; refine (trickleref43_Equal.calls y.f0 y.f1 A2 c2 y.f2 y.f0 y.f1 A3 c3 y.f2 true _ ?sa hl2 ?sb hl3 (equal_self _ _ _)).mono ?_; (case sa => repeat (first | exact HC2.out | apply Kd.C_drew)); (case sb => repeat (first | exact HC3.out | apply Kd.C_drew)); rintro e w9 ⟨rfl, hb9⟩))
              have HW9 : Aside0 (Below w8.heap.size w8 w9) := ⟨below_step HW.out (by first | exact hb9 | exact Below.trans (below_drew (Below.refl _ _)) hb9)⟩
              clear hb9 HC2 HC3 y0 y1 y2 z0 z1 z2 HW
              go_wp2
              go_roundw
              case rel => exact ⟨j + 1, by omega, by go_num, HW9⟩
              case measure => simp [intOf]; omega
            · go_wp2_with fail
              go_roundw
              case rel => exact ⟨k + 1, n + (msgs a cn).length, n2 + (msgs a cn).length, _, by omega, by go_num, ⟨by have := HN.out; omega⟩, ⟨S8.out.below HW.out⟩, ⟨Q8.out.below HW.out⟩, ⟨below_step B8.out HW.out⟩⟩
              case measure => simp [intOf]; omega
        · go_wp2
          go_ret
          exact ⟨rfl, HB'.out⟩
/-! ### the other ways -/
set_option maxHeartbeats 1000000 in
set_option maxRecDepth 100000 in
theorem out0 (win retry : Int) (A : Option Addr) (ca : Nat) (xs : List S43) (w : World) (hg : ¬ good win retry) (hca : xs.length ≤ ca) (hC : k43.C w A xs.length xs) (hord : tricklelaw45_ordered.f (xs.length + 1) xs = some true) :
    Calls Try.prog 8 #[.int .i64 win, .int .i64 retry, .slice A xs.length ca] w fun e w' => e = .returned (.bool true) ∧ Below w.heap.size w w' := by
  have HC := Aside0.mk hC
  have HG := Aside0.mk hg
  have HO := Aside0.mk hord
  clear hC hg hord
  go_enter Try.func8, Try.ntmps8
  go_wp2_with fail
  refine (new_bad win retry w HG.out).mono ?_
  rintro e w1 ⟨rfl, rfl⟩
  have B1 := Aside0.mk (Below.refl w1.heap.size w1)
  go_wp2_with fail
  refine (examples_any _).mono ?_
  rintro e w2 ⟨rfl, hb2⟩
  have B2 := Aside0.mk (below_step B1.out hb2)
  clear hb2 B1
  go_wp2_with fail
  refine (tricklelaw45_ordered.calls _ A ca xs _ w2 (Kd.C_below HC.out B2.out) hca HO.out).mono ?_
  rintro e w3 ⟨rfl, hb3⟩
  have B3 := Aside0.mk (below_step B2.out hb3)
  clear hb3 B2
  go_wp2_with fail
  refine (examples_any _).mono ?_
  rintro e w4 ⟨rfl, hb4⟩
  have B4 := Aside0.mk (below_step B3.out hb4)
  clear hb4 B3
  go_wp2
  go_ret
  exact ⟨rfl, B4.out⟩
set_option maxHeartbeats 1000000 in
set_option maxRecDepth 100000 in
theorem out1 (win retry : Int) (A : Option Addr) (ca : Nat) (xs : List S43) (w : World) (hg : ¬ good win retry) (hca : xs.length ≤ ca) (hC : k43.C w A xs.length xs) (hord : tricklelaw45_ordered.f (xs.length + 1) xs = some false) :
    Calls Try.prog 8 #[.int .i64 win, .int .i64 retry, .slice A xs.length ca] w fun e w' => e = .returned (.bool true) ∧ Below w.heap.size w w' := by
  have HC := Aside0.mk hC
  have HG := Aside0.mk hg
  have HO := Aside0.mk hord
  clear hC hg hord
  go_enter Try.func8, Try.ntmps8
  go_wp2_with fail
  refine (new_bad win retry w HG.out).mono ?_
  rintro e w1 ⟨rfl, rfl⟩
  have B1 := Aside0.mk (Below.refl w1.heap.size w1)
  go_wp2_with fail
  refine (examples_any _).mono ?_
  rintro e w2 ⟨rfl, hb2⟩
  have B2 := Aside0.mk (below_step B1.out hb2)
  clear hb2 B1
  go_wp2_with fail
  refine (tricklelaw45_ordered.calls _ A ca xs _ w2 (Kd.C_below HC.out B2.out) hca HO.out).mono ?_
  rintro e w3 ⟨rfl, hb3⟩
  have B3 := Aside0.mk (below_step B2.out hb3)
  clear hb3 B2
  go_wp2_with fail
  refine (examples_any _).mono ?_
  rintro e w4 ⟨rfl, hb4⟩
  have B4 := Aside0.mk (below_step B3.out hb4)
  clear hb4 B3
  go_wp2
  go_ret
  exact ⟨rfl, B4.out⟩
set_option maxHeartbeats 1000000 in
set_option maxRecDepth 100000 in
theorem out2 (win retry : Int) (A : Option Addr) (ca : Nat) (xs : List S43) (w : World) (hg : good win retry) (hca : xs.length ≤ ca) (hC : k43.C w A xs.length xs) (hord : tricklelaw45_ordered.f (xs.length + 1) xs = some false) :
    Calls Try.prog 8 #[.int .i64 win, .int .i64 retry, .slice A xs.length ca] w fun e w' => e = .returned (.bool true) ∧ Below w.heap.size w w' := by
  have HC := Aside0.mk hC
  have HG := Aside0.mk hg
  have HO := Aside0.mk hord
  clear hC hg hord
  go_enter Try.func8, Try.ntmps8
  go_wp2_with fail
  refine (new_good win retry w HG.out).mono ?_
  rintro e w1 ⟨g, b, rfl, hs1, hge, hbe, hb1⟩
  have B1 := Aside0.mk hb1
  clear hs1 hb1
  go_wp2_with fail
  refine (examples_any _).mono ?_
  rintro e w2 ⟨rfl, hb2⟩
  have B2 := Aside0.mk (below_step B1.out hb2)
  clear hb2 B1
  go_wp2_with fail
  refine (tricklelaw45_ordered.calls _ A ca xs _ w2 (Kd.C_below HC.out B2.out) hca HO.out).mono ?_
  rintro e w3 ⟨rfl, hb3⟩
  have B3 := Aside0.mk (below_step B2.out hb3)
  clear hb3 B2
  go_wp2_with fail
  refine (examples_any _).mono ?_
  rintro e w4 ⟨rfl, hb4⟩
  have B4 := Aside0.mk (below_step B3.out hb4)
  clear hb4 B3
  go_wp2
  go_ret
  exact ⟨rfl, B4.out⟩
variable {H : Type} {enc : TypeId × Value → H}
theorem walk (W : World) (base : Nat) (v0 : Value) (d0 : DataW H) (p0 : List MemPlace) (v1 : Value) (d1 : DataW H) (p1 : List MemPlace) (v2 : Value) (d2 : DataW H) (p2 : List MemPlace) (o0 : Value.okWide Try.prog W .any base 3 v0) (h0 : DataW.Trod enc Try.prog W 0 (fun _ => true) true 3 v0 d0 p0) (o1 : Value.okWide Try.prog W .any base 2 v1) (h1 : DataW.Trod enc Try.prog W 0 (fun _ => true) true 2 v1 d1 p1) (o2 : Value.okWide Try.prog W .any base 40 v2) (h2 : DataW.Trod enc Try.prog W 0 (fun _ => true) true 40 v2 d2 p2) :
    Calls Try.prog 8 #[v0, v1, v2] W fun e w' => e = .returned (.bool true) ∧ Below W.heap.size W w' := by
  obtain ⟨win, rfl⟩ := okWide_int Try.underlying3 o0
  obtain ⟨retry, rfl⟩ := okWide_int Try.underlying2 o1
  obtain ⟨A, ca, xs, rfl, hca, hC, hx⟩ := Open.open_calls o2 h2
  obtain ⟨B, hB, hT⟩ := ordered_tells xs hC.2.1
  cases B
  · by_cases hg : good win retry
    · exact out2 win retry A ca xs W hg hca hC hB
    · exact out1 win retry A ca xs W hg hca hC hB
  · by_cases hg : good win retry
    · exact calls_in win retry A ca xs W hg hca hC hx hB (hT rfl).1 (hT rfl).2
    · exact out0 win retry A ca xs W hg hca hC hB
end Go.Proofs.Ytjblfldgeemciaa.RestLaw
