/-
  SenderWindow: whatever the window, the retry time and the calls.
-/
import Derived.Test.YtjblfldgeemciaaCallPl
import Derived.Deep.RegionHeld3
set_option linter.unusedVariables false
namespace Go.Proofs.Ytjblfldgeemciaa.WinLaw
open Go.RowKit Go.ChangeShapes Go.WideShapes Go.ChangeAt Go.Maps Go.Proofs.YtjblfldgeemciaaW.PrintWords Go.Proofs.YtjblfldgeemciaaW.PrintLast Go.Proofs.Ytjblfldgeemciaa.Pr Go.Proofs.Ytjblfldgeemciaa.Sd Go.Proofs.Ytjblfldgeemciaa.CallPl
theorem Snd.drew {w : World} {g b n : Nat} {win retry : Int} {F : Int → Option Int} (h : Snd w g b win retry n F) : Snd w.drew g b win retry n F := h.below (below_drew (Below.refl _ _))
theorem words_tells (l : List Int) (h : l.length ≤ 1000000) : tricklelaw45_words.f l = some l := by
  unfold tricklelaw45_words.f
  simp only [Option.bind_some, List.length_nil, List.nil_append]
  rw [if_pos (by omega)]
theorem words_at {w : World} {B : Option Addr} {ls : List Int} (h : (Kd.int .i16).C w B ls.length ls) (r : Nat) (hr : r < ls.length) : ∃ bd, B = some bd ∧ w.cell? (bd.add r) = some (.int .i16 (ls.getD r 0)) := by
  obtain ⟨ad, c, e, _, hK, hc⟩ := Kd.C_get h 0 (r : Int) (by omega) (by omega)
  rw [Int.toNat_natCast] at hK hc
  have hK' : c = [.int .i16 (ls.getD r 0)] := hK
  subst hK'
  have := hc 0 _ rfl
  have e1 : r * (Kd.int .i16).sz + 0 = r := by show r * 1 + 0 = r; omega
  rw [e1] at this
  exact ⟨ad, e, this⟩
theorem asc_at : ∀ (xs : List S43) (m : Int), Asc m xs → ∀ x ∈ xs, x.f0 ≤ 2147483648
  | [], _, _, x, hx => by cases hx
  | y :: ys, m, h, x, hx => by
    rcases List.mem_cons.1 hx with rfl | hx
    · exact h.2.1
    · exact asc_at ys _ h.2.2 x hx
/-- Which messages go out. -/
def idx (F : Int → Option Int) (a retry now : Int) (k : Nat) : List Nat := (List.range k).filter (fun i => Sd.due F retry (a + i) now)
theorem outs_idx (F : Int → Option Int) (a retry now : Int) (l : List Int) (k : Nat) : outs F a retry now l k = (idx F a retry now k).map (fun i : Nat => frm (a + i) (l.getD i 0)) := by
  induction k with
  | zero => rfl
  | succ k ih =>
    unfold outs idx
    rw [List.range_succ, List.filter_append, List.map_append]
    unfold idx at ih
    rw [← ih]
    cases h : Sd.due F retry (a + k) now
    · simp [h]
    · simp [h]
theorem idx_lt (F : Int → Option Int) (a retry now : Int) (k : Nat) : ∀ i ∈ idx F a retry now k, i < k := by
  intro i hi
  have := (List.mem_filter.1 hi).1
  exact List.mem_range.1 this
theorem idx_asc (F : Int → Option Int) (a retry now : Int) (k : Nat) : (idx F a retry now k).Pairwise (· < ·) := List.Pairwise.filter _ List.pairwise_lt_range
/-- What the frames of a round are, told without the sender. -/
structure Okay (O : List S24) (l : List Int) (a win : Int) (I : List Nat) : Prop where
  len : O.length = I.length
  at_ : ∀ j (h : j < I.length), rd_T24 O (j : Int) = frm (a + (I[j] : Int)) (l.getD I[j] 0)
  lt : ∀ j (h : j < I.length), I[j] < l.length ∧ (I[j] : Int) < win
  asc : ∀ j (h : j + 1 < I.length), I[j] < I[j + 1]
theorem okay (F : Int → Option Int) (a retry now win : Int) (l : List Int) : ∃ I, Okay (outs F a retry now l (lim win a l.length)) l a win I := by
  refine ⟨idx F a retry now (lim win a l.length), ⟨by rw [outs_idx]; simp, fun j h => ?_, fun j h => ?_, fun j h => ?_⟩⟩
  · rw [outs_idx]
    unfold rd_T24
    rw [List.getD_eq_getElem?_getD, Int.toNat_natCast, List.getElem?_map, List.getElem?_eq_getElem h]
    rfl
  · have := idx_lt F a retry now (lim win a l.length) _ (List.getElem_mem h)
    have h1 : lim win a l.length ≤ l.length := Nat.min_le_left _ _
    have h2 : lim win a l.length ≤ win.toNat := Nat.le_trans (Nat.min_le_right _ _) (Nat.min_le_left _ _)
    omega
  · exact List.pairwise_iff_getElem.1 (idx_asc F a retry now (lim win a l.length)) j (j + 1) (by omega) h (by omega)
set_option maxHeartbeats 4000000 in
set_option maxRecDepth 100000 in
theorem calls_in (win retry : Int) (A : Option Addr) (ca : Nat) (xs : List S43) (w : World) (hg : good win retry) (hca : xs.length ≤ ca) (hC : k43.C w A xs.length xs) (hx : ∀ x ∈ xs, Open.SCall x) (hord : tricklelaw45_ordered.f (xs.length + 1) xs = some true) (hl : xs.length ≤ 60) (hasc : Asc (-10) xs) :
    Calls Try.prog 5 #[.int .i64 win, .int .i64 retry, .slice A xs.length ca] w fun e w' => e = .returned (.bool true) ∧ Below w.heap.size w w' := by
  have HC := Aside0.mk hC
  have HG := Aside0.mk hg
  have HO := Aside0.mk hord
  have HX := Aside0.mk hx
  have HA := Aside0.mk (asc_at xs _ hasc)
  clear hC hg hord hx hasc
  go_enter Try.func5, Try.ntmps5
  go_wp2_with fail
  refine (new_good win retry w HG.out).mono ?_
  rintro e w1 ⟨g, b, rfl, hs1, hge, hbe, hb1⟩
  have S1 := Aside0.mk hs1
  have B1 := Aside0.mk hb1
  clear hs1 hb1
  go_wp2_with fail
  refine (examples_any _).mono ?_
  rintro e w2 ⟨rfl, hb2⟩
  have S2 := Aside0.mk (S1.out.below hb2)
  have B2 := Aside0.mk (below_step B1.out hb2)
  clear hb2 S1 B1
  go_wp2_with fail
  refine (tricklelaw45_ordered.calls _ A ca xs _ w2 (Kd.C_below HC.out B2.out) hca HO.out).mono ?_
  rintro e w3 ⟨rfl, hb3⟩
  have S3 := Aside0.mk (S2.out.below hb3)
  have B3 := Aside0.mk (below_step B2.out hb3)
  clear hb3 S2 B2
  go_wp2
  go_loopw [42] (fun ix wr => ∃ (k n : Nat) (F : Int → Option Int), k ≤ xs.length ∧ ix = .int .i64 k ∧ Aside0 (n ≤ 60 * k) ∧ Aside0 (Snd wr g b win retry n F) ∧ Aside0 (Below w.heap.size w wr)) (fun ix _ => xs.length - (intOf ix).toNat)
  case atStart => exact ⟨0, 0, _, Nat.zero_le _, rfl, ⟨Nat.le_refl _⟩, S3, B3⟩
  case round =>
    obtain ⟨k, n, F, hk, rfl, HN, HS', HB'⟩ := hrel
    clear S3 B3
    by_cases hlt : k < xs.length
    · obtain ⟨ad, had, h0, h1, h2, h3⟩ := at_T43 HC.out (k : Int) (by omega) (by omega)
      rw [Int.toNat_natCast] at h0 h1 h2 h3
      have hxe : rd_T43 xs (k : Int) = xs[k] := by
        unfold rd_T43
        rw [List.getD_eq_getElem?_getD, Int.toNat_natCast, List.getElem?_eq_getElem hlt]
        rfl
      rw [hxe] at h0 h1 h2 h3
      have hbd := HX.out _ (List.getElem_mem hlt)
      have hbd2 := HA.out _ (List.getElem_mem hlt)
      generalize xs[k] = x at *
      obtain ⟨a, cn, t, rs⟩ := x
      have r0 := pw_cell_below HB'.out h0
      have r1 := pw_cell_below HB'.out h1
      have r2 := pw_cell_below HB'.out h2
      have r3 := pw_cell_below HB'.out h3
      obtain ⟨⟨ha1, ha2⟩, ⟨hc1, hc2⟩, ⟨ht1, ht2⟩⟩ := hbd
      have ha3 : a ≤ 2147483648 := hbd2
      simp only at ha1 ha2 hc1 hc2 ht1 ht2 r0 r1 r2 r3
      clear h0 h1 h2 h3 hxe hbd2
      subst had
      by_cases g1 : a < 0
      · go_wp2
        go_ret
        exact ⟨rfl, by repeat (first | exact HB'.out | apply below_alloc)⟩
      by_cases g2 : t > 1099511627776
      · go_wp2
        go_ret
        exact ⟨rfl, by repeat (first | exact HB'.out | apply below_alloc)⟩
      by_cases g3 : t < -1099511627776
      · go_wp2
        go_ret
        exact ⟨rfl, by repeat (first | exact HB'.out | apply below_alloc)⟩
      have d1 : decide (a < 0) = false := decide_eq_false g1
      have d2 : decide ((1099511627776 : Int) < t) = false := decide_eq_false (by omega)
      have d3 : decide (t < -1099511627776) = false := decide_eq_false g3
      have hlt1 : wr.heap.size < wr.heap.size + 1 := by omega
      go_wp2_with fail
      refine (tricklelaw45_Call_messages.calls 51 a cn t rs _ _ (msgs_tells a cn t rs hc1 hc2)).mono ?_
      rintro e w4 ⟨v4, rfl, ho4, hb4⟩
      have T4 := Aside0.mk (blk_below (blk_new wr (.cells #[.int .i64 a, .int .u8 cn, .int .i64 t, .bool rs] 43)) hb4)
      have S4 := Aside0.mk ((HS'.out.alloc (.cells #[.int .i64 a, .int .u8 cn, .int .i64 t, .bool rs] 43)).below hb4)
      have B4 := Aside0.mk (below_step (below_alloc HB'.out (.cells #[.int .i64 a, .int .u8 cn, .int .i64 t, .bool rs] 43)) hb4)
      have M4 := Aside0.mk (Kd.R_lower ho4 (show b + 1 ≤ _ from (HS'.out.alloc (.cells #[.int .i64 a, .int .u8 cn, .int .i64 t, .bool rs] 43)).ltb))
      obtain ⟨A4, c4, rfl, hl4, hC4⟩ := Kd.R_reads ho4
      have C4 := Aside0.mk hC4
      have t0 : w4.cell? ⟨wr.heap.size, 0, none⟩ = some (.int .i64 a) := (blk_cell T4.out 0).trans rfl
      have t2 : w4.cell? ⟨wr.heap.size, 2, none⟩ = some (.int .i64 t) := (blk_cell T4.out 2).trans rfl
      have hml : (msgs a cn).length ≤ 50 := by rw [msgs_length]; omega
      have hbb : wr.heap.size ≠ b := by have := HS'.out.ltb; omega
      clear ho4 hb4 hC4 HS' HB' r0 r1 r2 r3 d1 d2 d3
      obtain ⟨O, hO⟩ : ∃ O, outs (cut F a) a retry t (msgs a cn) (lim win a (msgs a cn).length) = O := ⟨_, rfl⟩
      obtain ⟨I, hI⟩ := okay (cut F a) a retry t win (msgs a cn)
      rw [hO] at hI
      have hOl : O.length ≤ 50 := by
        rw [← hO]
        have h1 := outs_length (cut F a) a retry t (msgs a cn) (lim win a (msgs a cn).length)
        have h2 : lim win a (msgs a cn).length ≤ (msgs a cn).length := Nat.min_le_left _ _
        omega
      have HOq := Aside0.mk hO
      have HI := Aside0.mk hI
      have HW := Aside0.mk (words_tells (msgs a cn) (by omega))
      clear hO hI
      go_wp2_with fail
      go_region_held3 (fun w' => w'.cell? ⟨wr.heap.size, 0, none⟩ = some (.int .i64 a) ∧ w'.cell? ⟨wr.heap.size, 2, none⟩ = some (.int .i64 t)) (first | exact ⟨t0, t2⟩ | exact ⟨q0, q2⟩ | exact ⟨p0, p2⟩)
        (first
          | (go_at_call 18; refine (tricklelaw45_words.calls A4 c4 (msgs a cn) (msgs a cn) _ ?side1 hl4 HW.out).mono ?_; (case side1 => repeat (first | exact C4.out | apply Kd.C_drew | apply Kd.C_alloc)); rintro e w5 ⟨v5, rfl, ho5, hb5⟩; obtain ⟨A5, c5, rfl, hl5, hC5⟩ := Kd.R_reads ho5; have q0 : w5.cell? ⟨wr.heap.size, 0, none⟩ = some (.int .i64 a) := pw_cell_below hb5 t0; have q2 : w5.cell? ⟨wr.heap.size, 2, none⟩ = some (.int .i64 t) := pw_cell_below hb5 t2)
          | (go_at_call 17; refine (poll_to g b n win retry a t A5 _ c5 (msgs a cn) F _ O _ ?side2 HG.out ?side3 ?side4 ?side5 ?side6 ?side7 ?side8 hl5 rfl HOq.out rfl).mono ?_; (case side2 => (first | exact S4.out.below hb5 | exact (Snd.drew S4.out).below hb5)); (case side3 => exact ⟨by omega, by omega⟩); (case side4 => omega); (case side5 => omega); (case side6 => omega); (case side7 => have := HN.out; omega); (case side8 => exact hC5); rintro e w6 ⟨A6, c6, rfl, hR6, hS6, hG6⟩; have p0 : w6.cell? ⟨wr.heap.size, 0, none⟩ = some (.int .i64 a) := hG6.cell q0 (fun e => hbb (Option.some.inj e)); have p2 : w6.cell? ⟨wr.heap.size, 2, none⟩ = some (.int .i64 t) := hG6.cell q2 (fun e => hbb (Option.some.inj e))))
      have B6 := Aside0.mk (below_poll (below_step B4.out (Below.trans (below_drew (Below.refl _ _)) hb5)) hG6 hbe)
      have S6 := Aside0.mk hS6
      have R6 := Aside0.mk hR6
      have T6 := Aside0.mk (blk_grown (blk_below (blk_drew T4.out) hb5) hG6 (fun e => hbb (Option.some.inj e)))
      have M6 := Aside0.mk (R_mapped (Kd.R_below (Kd.R_drew M4.out) hb5) hG6 (Nat.lt_succ_self b))
      have C6 := Aside0.mk (Kd.R_reads' M6.out).2.2
      clear hb5 ho5 hC5 hl5 q0 q2 hR6 hS6 hG6 p0 p2 t0 t2 T4 S4 B4 M4 C4 M6 HOq HW
      generalize wr.heap.size = bt at *
      go_wp2
      go_loopw [12, 73] (fun la ix wr => ∃ (j : Nat) (la0 : Int), j ≤ O.length ∧ la = .int .i64 la0 ∧ ix = .int .i64 j ∧ Aside0 (∀ h : j < I.length, la0 < a + (I[j] : Int)) ∧ Aside0 (Below w6.heap.size w6 wr)) (fun _ ix _ => O.length - (intOf ix).toNat)
      case atStart => exact ⟨0, a - 1, Nat.zero_le _, rfl, rfl, ⟨fun h => by omega⟩, ⟨Below.refl _ _⟩⟩
      case round =>
        obtain ⟨j, la0, hj, rfl, rfl, HL, HB7⟩ := hrel
        by_cases hjl : j < O.length
        · have hjI : j < I.length := by rw [← HI.out.len]; exact hjl
          have hil := HI.out.lt j hjI
          have hla := HL.out hjI
          obtain ⟨ao, A2, c2, hao, f0, f1, f2, hl2, hC2⟩ := at_T24 (Kd.R_reads' R6.out).2.2 (j : Int) (by omega) (by omega)
          rw [Int.toNat_natCast] at f0 f1 f2
          rw [HI.out.at_ j hjI, msgs_at _ _ _ hil.1] at f0 f1 f2 hl2 hC2
          have hv := msg_range a I[j]
          have HV := Aside0.mk (value_frm (a + (I[j] : Int)) (msg a I[j]) hv)
          have hi50 : I[j] < 50 := by omega
          obtain ⟨am, ham, mc⟩ := words_at C6.out I[j] hil.1
          rw [msgs_at _ _ _ hil.1] at mc
          have HNX := Aside0.mk (show ∀ h : j + 1 < I.length, a + (I[j] : Int) < a + (I[j + 1] : Int) from fun h => by have := HI.out.asc j h; omega)
          generalize msg a I[j] = v at *
          generalize I[j] = i at *
          obtain ⟨s, hs⟩ : ∃ s : Int, s = a + (i : Int) := ⟨_, rfl⟩
          obtain ⟨bd, hbd⟩ : ∃ bd, (frm (a + (i : Int)) v).f2 = bd := ⟨_, rfl⟩
          rw [hbd] at f2 hl2 hC2 HV
          have q0 : w6.cell? (ao.add (j * 3)) = some (.int .i64 1) := f0
          have q1 : w6.cell? ⟨(ao.add (j * 3)).block, (ao.add (j * 3)).off + 1, none⟩ = some (.int .i64 (a + (i : Int))) := f1
          have HV2 : Aside0 (trickleref43_Value.f 1 s bd = some (v, true)) := ⟨by rw [hs]; exact HV.out⟩
          rw [← hs] at q1 hla HNX
          have y0 := pw_cell_below HB7.out q0
          have y1 := pw_cell_below HB7.out q1
          have y2 := pw_cell_below HB7.out f2
          have HC2 := Aside0.mk (Kd.C_below hC2 HB7.out)
          have HMC := Aside0.mk (show w6.cell? (am.add (s - a).toNat) = some (.int .i16 v) by rw [show (s - a).toNat = i by omega]; exact mc)
          have e1 : ¬ s ≤ la0 := by omega
          have e2 : ¬ a + win ≤ s := by have := hil.2; omega
          have e3 : ¬ ((msgs a cn).length : Int) ≤ s - a := by have := hil.1; omega
          have e4 : 0 ≤ s - a := by omega
          have e5 : s - a < 50 := by omega
          have e6 : a + win ≤ 2147483700 := by have := HG.out.2.1; omega
          have e7 : 0 ≤ a + win := by have := HG.out.1; omega
          clear hbd f0 f1 f2 q0 q1 mc hC2 HV hs hv hil hla HL
          subst hao
          subst ham
          go_wp2_with fail
          refine (trickleref43_Value.calls 1 s A2 c2 bd v true _ (Kd.C_alloc HC2.out _) hl2 HV2.out).mono ?_
          rintro e w8 ⟨rfl, hb8⟩
          have HB8 := Aside0.mk (below_step (below_alloc HB7.out (.cells #[.int .i64 1, .int .i64 s, .slice A2 bd.length c2] 24)) hb8)
          have x1 : w8.cell? ⟨wr.heap.size, 1, none⟩ = some (.int .i64 s) := (blk_cell (blk_below (blk_new wr (.cells #[.int .i64 1, .int .i64 s, .slice A2 bd.length c2] 24)) hb8) 1).trans rfl
          have x2 : w8.cell? ⟨bt, 0, none⟩ = some (.int .i64 a) := (blk_cell (blk_below T6.out HB8.out) 0).trans rfl
          have x3 := pw_cell_below HB8.out HMC.out
          clear hb8 HB7 HC2 HMC y0 y1 y2
          go_wp2_with fail
          go_roundw
          case rel => exact ⟨j + 1, s, by omega, rfl, by go_num, HNX, HB8⟩
          case measure => simp [intOf]; omega
        · go_wp2_with fail
          go_roundw
          case rel => exact ⟨k + 1, n + (msgs a cn).length, _, by omega, by go_num, ⟨by have := HN.out; omega⟩, ⟨S6.out.below HB7.out⟩, ⟨below_step B6.out HB7.out⟩⟩
          case measure => simp [intOf]; omega
    · go_wp2
      go_ret
      exact ⟨rfl, HB'.out⟩
/-! ### the other ways -/
set_option maxHeartbeats 1000000 in
set_option maxRecDepth 100000 in
theorem out0 (win retry : Int) (A : Option Addr) (ca : Nat) (xs : List S43) (w : World) (hg : ¬ good win retry) (hca : xs.length ≤ ca) (hC : k43.C w A xs.length xs) (hord : tricklelaw45_ordered.f (xs.length + 1) xs = some true) :
    Calls Try.prog 5 #[.int .i64 win, .int .i64 retry, .slice A xs.length ca] w fun e w' => e = .returned (.bool true) ∧ Below w.heap.size w w' := by
  have HC := Aside0.mk hC
  have HG := Aside0.mk hg
  have HO := Aside0.mk hord
  clear hC hg hord
  go_enter Try.func5, Try.ntmps5
  go_wp2_with fail
  refine (new_bad win retry w HG.out).mono ?_
  rintro e w1 ⟨rfl, rfl⟩
  have B1 := Aside0.mk (Below.refl w1.heap.size w1)
  go_wp2_with fail
  refine (examples_any _).mono ?_
  rintro e w2 ⟨rfl, hb2⟩
  have B2 := Aside0.mk (below_step B1.out hb2)
  clear hb2 B1
  go_wp2_with fail
  refine (tricklelaw45_ordered.calls _ A ca xs _ w2 (Kd.C_below HC.out B2.out) hca HO.out).mono ?_
  rintro e w3 ⟨rfl, hb3⟩
  have B3 := Aside0.mk (below_step B2.out hb3)
  clear hb3 B2
  go_wp2_with fail
  refine (examples_any _).mono ?_
  rintro e w4 ⟨rfl, hb4⟩
  have B4 := Aside0.mk (below_step B3.out hb4)
  clear hb4 B3
  go_wp2
  go_ret
  exact ⟨rfl, B4.out⟩
set_option maxHeartbeats 1000000 in
set_option maxRecDepth 100000 in
theorem out1 (win retry : Int) (A : Option Addr) (ca : Nat) (xs : List S43) (w : World) (hg : ¬ good win retry) (hca : xs.length ≤ ca) (hC : k43.C w A xs.length xs) (hord : tricklelaw45_ordered.f (xs.length + 1) xs = some false) :
    Calls Try.prog 5 #[.int .i64 win, .int .i64 retry, .slice A xs.length ca] w fun e w' => e = .returned (.bool true) ∧ Below w.heap.size w w' := by
  have HC := Aside0.mk hC
  have HG := Aside0.mk hg
  have HO := Aside0.mk hord
  clear hC hg hord
  go_enter Try.func5, Try.ntmps5
  go_wp2_with fail
  refine (new_bad win retry w HG.out).mono ?_
  rintro e w1 ⟨rfl, rfl⟩
  have B1 := Aside0.mk (Below.refl w1.heap.size w1)
  go_wp2_with fail
  refine (examples_any _).mono ?_
  rintro e w2 ⟨rfl, hb2⟩
  have B2 := Aside0.mk (below_step B1.out hb2)
  clear hb2 B1
  go_wp2_with fail
  refine (tricklelaw45_ordered.calls _ A ca xs _ w2 (Kd.C_below HC.out B2.out) hca HO.out).mono ?_
  rintro e w3 ⟨rfl, hb3⟩
  have B3 := Aside0.mk (below_step B2.out hb3)
  clear hb3 B2
  go_wp2_with fail
  refine (examples_any _).mono ?_
  rintro e w4 ⟨rfl, hb4⟩
  have B4 := Aside0.mk (below_step B3.out hb4)
  clear hb4 B3
  go_wp2
  go_ret
  exact ⟨rfl, B4.out⟩
set_option maxHeartbeats 1000000 in
set_option maxRecDepth 100000 in
theorem out2 (win retry : Int) (A : Option Addr) (ca : Nat) (xs : List S43) (w : World) (hg : good win retry) (hca : xs.length ≤ ca) (hC : k43.C w A xs.length xs) (hord : tricklelaw45_ordered.f (xs.length + 1) xs = some false) :
    Calls Try.prog 5 #[.int .i64 win, .int .i64 retry, .slice A xs.length ca] w fun e w' => e = .returned (.bool true) ∧ Below w.heap.size w w' := by
  have HC := Aside0.mk hC
  have HG := Aside0.mk hg
  have HO := Aside0.mk hord
  clear hC hg hord
  go_enter Try.func5, Try.ntmps5
  go_wp2_with fail
  refine (new_good win retry w HG.out).mono ?_
  rintro e w1 ⟨g, b, rfl, hs1, hge, hbe, hb1⟩
  have B1 := Aside0.mk hb1
  clear hs1 hb1
  go_wp2_with fail
  refine (examples_any _).mono ?_
  rintro e w2 ⟨rfl, hb2⟩
  have B2 := Aside0.mk (below_step B1.out hb2)
  clear hb2 B1
  go_wp2_with fail
  refine (tricklelaw45_ordered.calls _ A ca xs _ w2 (Kd.C_below HC.out B2.out) hca HO.out).mono ?_
  rintro e w3 ⟨rfl, hb3⟩
  have B3 := Aside0.mk (below_step B2.out hb3)
  clear hb3 B2
  go_wp2_with fail
  refine (examples_any _).mono ?_
  rintro e w4 ⟨rfl, hb4⟩
  have B4 := Aside0.mk (below_step B3.out hb4)
  clear hb4 B3
  go_wp2
  go_ret
  exact ⟨rfl, B4.out⟩
variable {H : Type} {enc : TypeId × Value → H}
theorem walk (W : World) (base : Nat) (v0 : Value) (d0 : DataW H) (p0 : List MemPlace) (v1 : Value) (d1 : DataW H) (p1 : List MemPlace) (v2 : Value) (d2 : DataW H) (p2 : List MemPlace) (o0 : Value.okWide Try.prog W .any base 3 v0) (h0 : DataW.Trod enc Try.prog W 0 (fun _ => true) true 3 v0 d0 p0) (o1 : Value.okWide Try.prog W .any base 2 v1) (h1 : DataW.Trod enc Try.prog W 0 (fun _ => true) true 2 v1 d1 p1) (o2 : Value.okWide Try.prog W .any base 40 v2) (h2 : DataW.Trod enc Try.prog W 0 (fun _ => true) true 40 v2 d2 p2) :
    Calls Try.prog 5 #[v0, v1, v2] W fun e w' => e = .returned (.bool true) ∧ Below W.heap.size W w' := by
  obtain ⟨win, rfl⟩ := okWide_int Try.underlying3 o0
  obtain ⟨retry, rfl⟩ := okWide_int Try.underlying2 o1
  obtain ⟨A, ca, xs, rfl, hca, hC, hx⟩ := Open.open_calls o2 h2
  obtain ⟨B, hB, hT⟩ := ordered_tells xs hC.2.1
  cases B
  · by_cases hg : good win retry
    · exact out2 win retry A ca xs W hg hca hC hB
    · exact out1 win retry A ca xs W hg hca hC hB
  · by_cases hg : good win retry
    · exact calls_in win retry A ca xs W hg hca hC hx hB (hT rfl).1 (hT rfl).2
    · exact out0 win retry A ca xs W hg hca hC hB
end Go.Proofs.Ytjblfldgeemciaa.WinLaw
