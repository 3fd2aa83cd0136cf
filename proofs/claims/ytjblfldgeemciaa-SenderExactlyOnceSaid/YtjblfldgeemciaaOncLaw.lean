/-
  SenderExactlyOnce: the walk.
-/
import Derived.Test.YtjblfldgeemciaaOncRow
import Derived.Deep.DeepCutAuto
import Derived.Deep.CutBlock
import Derived.BigQuiet
import Derived.Outline
set_option linter.unusedVariables false
set_option linter.unusedSimpArgs false
namespace Go.Proofs.Ytjblfldgeemciaa.OncLaw
open Go.RowKit Go.ChangeShapes Go.WideShapes Go.ChangeAt Go.Maps Go.Proofs.YtjblfldgeemciaaW.PrintWords Go.Proofs.YtjblfldgeemciaaW.PrintLast Go.Proofs.Ytjblfldgeemciaa.Pr Go.Proofs.Ytjblfldgeemciaa.Sd Go.Proofs.Ytjblfldgeemciaa.CallPl Go.Proofs.Ytjblfldgeemciaa.PollZ Go.Proofs.Ytjblfldgeemciaa.Stp Go.Proofs.Ytjblfldgeemciaa.Onc Go.Proofs.Ytjblfldgeemciaa.OncRow
set_option maxHeartbeats 1000000 in
set_option maxRecDepth 100000 in
theorem out_bad (win : Int) (A : Option Addr) (n c : Nat) (A2 : Option Addr) (n2 c2 : Nat) (w : World) (hg : ¬ good win 5) :
    Calls Try.prog 9 #[.int .i64 win, .slice A n c, .slice A2 n2 c2] w fun e w' => e = .returned (.bool true) ∧ Below w.heap.size w w' := by
  have HG := Aside0.mk hg
  clear hg
  go_enter Try.func9, Try.ntmps9
  go_wp2_with fail
  refine (new_bad win 5 w HG.out).mono ?_
  rintro e w1 ⟨rfl, rfl⟩
  go_wp2_with fail
  refine (examples_any _).mono ?_
  rintro e w2 ⟨rfl, hb2⟩
  have B2 := Aside0.mk hb2
  clear hb2
  go_wp2_with fail
  refine (examples_any _).mono ?_
  rintro e w3 ⟨rfl, hb3⟩
  have B3 := Aside0.mk (below_step B2.out hb3)
  clear hb3 B2
  go_wp2
  go_ret
  exact ⟨rfl, B3.out⟩
set_option maxHeartbeats 1000000 in
set_option maxRecDepth 100000 in
theorem out_long (win : Int) (A : Option Addr) (n c : Nat) (A2 : Option Addr) (n2 c2 : Nat) (w : World) (hg : good win 5) (hl : n > 60 ∨ ¬ n > 60 ∧ n2 > 300) :
    Calls Try.prog 9 #[.int .i64 win, .slice A n c, .slice A2 n2 c2] w fun e w' => e = .returned (.bool true) ∧ Below w.heap.size w w' := by
  have HG := Aside0.mk hg
  have HL := Aside0.mk hl
  clear hg hl
  go_enter Try.func9, Try.ntmps9
  go_wp2_with fail
  refine (new_good win 5 w HG.out).mono ?_
  rintro e w1 ⟨g, b, rfl, hs1, hge, hbe, hb1⟩
  have B1 := Aside0.mk hb1
  clear hs1 hb1
  go_wp2_with fail
  refine (examples_any _).mono ?_
  rintro e w2 ⟨rfl, hb2⟩
  have B2 := Aside0.mk (below_step B1.out hb2)
  clear hb2 B1
  rcases HL.out with h | ⟨h, h2⟩
  · have d1 : decide ((60 : Int) < (n : Int)) = true := decide_eq_true (by omega)
    have d2 : decide (60 < n) = true := decide_eq_true (by omega)
    clear h
    go_wp2_with fail
    refine (examples_any _).mono ?_
    rintro e w3 ⟨rfl, hb3⟩
    have B3 := Aside0.mk (below_step B2.out hb3)
    clear hb3 B2
    go_wp2
    go_ret
    exact ⟨rfl, B3.out⟩
  · have d1 : decide ((60 : Int) < (n : Int)) = false := decide_eq_false (by omega)
    have d2 : decide (60 < n) = false := decide_eq_false (by omega)
    have d3 : decide ((300 : Int) < (n2 : Int)) = true := decide_eq_true (by omega)
    have d4 : decide (300 < n2) = true := decide_eq_true (by omega)
    clear h h2
    go_wp2_with fail
    refine (examples_any _).mono ?_
    rintro e w3 ⟨rfl, hb3⟩
    have B3 := Aside0.mk (below_step B2.out hb3)
    clear hb3 B2
    go_wp2
    go_ret
    exact ⟨rfl, B3.out⟩
set_option maxHeartbeats 8000000 in
set_option maxRecDepth 100000 in
theorem calls_in (win : Int) (A : Option Addr) (ca : Nat) (l : List Int) (A2 : Option Addr) (c2 : Nat) (xs : List (Int × Int × Int)) (w : World) (hg : good win 5) (hca : l.length ≤ ca) (hC : (Kd.int .i16).C w A l.length l) (hlx : ∀ x ∈ l, -32768 ≤ x ∧ x ≤ 32767) (hC2 : kS.C w A2 xs.length xs) (hx : ∀ x ∈ xs, SStep x) (hl : l.length ≤ 60) (hl2 : xs.length ≤ 300) :
    Calls Try.prog 9 #[.int .i64 win, .slice A l.length ca, .slice A2 xs.length c2] w fun e w' => e = .returned (.bool true) ∧ Below w.heap.size w w' := by
  have HG := Aside0.mk hg
  have HC := Aside0.mk hC
  have HCA := Aside0.mk hca
  have HLX := Aside0.mk hlx
  have HC2 := Aside0.mk hC2
  have HX := Aside0.mk hx
  have HL := Aside0.mk (And.intro hl hl2)
  have d1 : decide ((60 : Int) < (l.length : Int)) = false := decide_eq_false (by omega)
  have d2 : decide (60 < l.length) = false := decide_eq_false (by omega)
  have d3 : decide ((300 : Int) < (xs.length : Int)) = false := decide_eq_false (by omega)
  have d4 : decide (300 < xs.length) = false := decide_eq_false (by omega)
  clear hg hC hca hlx hC2 hx hl hl2
  go_enter Try.func9, Try.ntmps9
  go_wp2_with fail
  refine (new_good win 5 w HG.out).mono ?_
  rintro e w1 ⟨g, b, rfl, hs1, hge, hbe, hb1⟩
  have S1 := Aside0.mk hs1
  have B1 := Aside0.mk hb1
  clear hs1 hb1
  go_wp2_with fail
  refine (examples_any _).mono ?_
  rintro e w2 ⟨rfl, hb2⟩
  have S2 := Aside0.mk (S1.out.below hb2)
  have B2 := Aside0.mk (below_step B1.out hb2)
  clear hb2 S1 B1
  go_wp2
  go_loopw [9, 10, 11, 12, 50] (fun vf vg va vn ix wr => ∃ (k : Nat) (fl : List S24) (got : List Int) (ac : Nat) (now : Int) (n : Nat) (F : Int → Option Int), k ≤ xs.length ∧ va = .int .i64 ac ∧ vn = .int .i64 now ∧ ix = .int .i64 k ∧ Aside0 ((∀ y ∈ fl, FL l y) ∧ fl.length ≤ 2000 ∧ Got l got ∧ ac ≤ got.length ∧ 0 ≤ now ∧ now ≤ 255 * k ∧ n ≤ 60 * k) ∧ Aside0 (Snd wr g b win 5 n F) ∧ Aside0 (k24.R 24 wr (b + 1) (fun _ => True) vf fl) ∧ Aside0 ((Kd.int .i16).R 49 wr (b + 1) (fun _ => True) vg got) ∧ Aside0 (Below w.heap.size w wr)) (fun _ _ _ _ ix _ => xs.length - (intOf ix).toNat)
  case atStart => exact ⟨0, [], [], 0, 0, 0, _, Nat.zero_le _, rfl, rfl, rfl, ⟨fun y hy => by simp at hy, by simp, Got.nil l, Nat.zero_le _, by omega, by omega, Nat.le_refl _⟩, S2, ⟨Kd.R_nil _ _ _ _ _⟩, ⟨Kd.R_nil _ _ _ _ _⟩, B2⟩
  case round =>
    obtain ⟨k, fl, got, ac, now, n, F, hk, rfl, rfl, rfl, HI, HS', HR', HQ', HB'⟩ := hrel
    clear S2 B2
    have hxl : xs.length ≤ 300 := HL.out.2
    by_cases hlt : k < xs.length
    · obtain ⟨hl1, hl2, hc0⟩ := HC2.out
      obtain ⟨ad, had, hc⟩ := hc0 (by omega)
      obtain ⟨cs, hl3, hK, hcell⟩ := hc k _ (List.getElem?_eq_getElem hlt)
      obtain rfl := kS_open hK
      have q0 : w.cell? (ad.add (k * 3)) = some (.int .u8 xs[k].1) := hcell 0 _ rfl
      have q1 : w.cell? ⟨(ad.add (k * 3)).block, (ad.add (k * 3)).off + 1, none⟩ = some (.int .u8 xs[k].2.1) := by
        rw [← add_field _ _ 1 (by omega)]
        exact hcell 1 _ rfl
      have q2 : w.cell? ⟨(ad.add (k * 3)).block, (ad.add (k * 3)).off + 2, none⟩ = some (.int .u8 xs[k].2.2) := by
        rw [← add_field _ _ 2 (by omega)]
        exact hcell 2 _ rfl
      have r0 := pw_cell_below HB'.out q0
      have r1 := pw_cell_below HB'.out q1
      have r2 := pw_cell_below HB'.out q2
      have hb := HX.out _ (List.getElem_mem hlt)
      generalize xs[k] = x at *
      obtain ⟨kd, at_, by_⟩ := x
      obtain ⟨⟨k0, k1⟩, ⟨a0, a1⟩, b0, b1⟩ := hb
      simp only at r0 r1 r2 k0 k1 a0 a1 b0 b1
      clear hl1 hl2 hl3 hK hcell hc hc0 q0 q1 q2
      subst had
      obtain ⟨Af, cf, rfl⟩ := Kd.R_slice HR'.out
      obtain ⟨Ag, cg, rfl⟩ := Kd.R_slice HQ'.out
      go_upto_if 56 with fail
      go_cut [15] (fun v15 wx => ∃ i : Nat, v15 = .int .i64 i ∧ Aside0 (fl.length = 0 ∨ i < fl.length) ∧ wr.alloc (.cells #[.int .u8 kd, .int .u8 at_, .int .u8 by_] 60) = wx)
      case first =>
        go_wp2_with fail
        · have hp : 0 ≤ at_ % (fl.length : Int) := Int.emod_nonneg _ (by omega)
          have hq : at_ % (fl.length : Int) < (fl.length : Int) := Int.emod_lt_of_pos _ (by omega)
          go_meet
          case rel => exact ⟨(at_ % (fl.length : Int)).toNat, by rw [Int.toNat_of_nonneg hp], ⟨.inr (by omega)⟩, rfl⟩
        · have HF0 := Aside0.mk (show fl.length = 0 by omega)
          go_meet
          case rel => exact ⟨0, rfl, ⟨.inl HF0.out⟩, rfl⟩
      case rest =>
        obtain ⟨i, rfl, Hi, hwx⟩ := hcut
        have T3 := Aside0.mk (blk_new wr (.cells #[.int .u8 kd, .int .u8 at_, .int .u8 by_] 60))
        have S3 := Aside0.mk (HS'.out.alloc (.cells #[.int .u8 kd, .int .u8 at_, .int .u8 by_] 60))
        have R3 := Aside0.mk (Kd.R_alloc HR'.out (.cells #[.int .u8 kd, .int .u8 at_, .int .u8 by_] 60))
        have Q3 := Aside0.mk (Kd.R_alloc HQ'.out (.cells #[.int .u8 kd, .int .u8 at_, .int .u8 by_] 60))
        have B3 := Aside0.mk (below_alloc HB'.out (.cells #[.int .u8 kd, .int .u8 at_, .int .u8 by_] 60))
        have HBT := Aside0.mk (show b < wr.heap.size from HS'.out.ltb)
        rw [hwx] at T3 S3 R3 Q3 B3
        clear hwx HS' HR' HQ' HB' r0 r1 r2
        generalize wr.heap.size = bt at *
        have HM := Aside0.mk (show kd % 6 = 0 ∨ kd % 6 = 1 ∨ kd % 6 = 2 ∨ kd % 6 = 3 ∨ kd % 6 = 4 ∨ kd % 6 = 5 by omega)
        have hnow := HI.out.2.2.2.2.1
        have hnow2 : now ≤ 76500 := by have := HI.out.2.2.2.2.2.1; omega
        have hx0 : wc.cell? ⟨bt, 0, none⟩ = some (.int .u8 kd) := (blk_cell T3.out 0).trans rfl
        go_upto_block 2 with fail
        clear hx0
        go_cut [9, 10, 11, 12, 65] (fun vf vg va vn v65 wx => ∃ (fl2 : List S24) (got2 : List Int) (ac2 : Nat) (now2 : Int) (n2 : Nat) (F2 : Int → Option Int), va = .int .i64 ac2 ∧ vn = .int .i64 now2 ∧ Aside0 ((∀ y ∈ fl2, FL l y) ∧ fl2.length ≤ 3000 ∧ Got l got2 ∧ ac2 ≤ got2.length ∧ 0 ≤ now2 ∧ now2 ≤ 255 * (k + 1 : Nat) ∧ n2 ≤ 60 * (k + 1)) ∧ Aside0 (Snd wx g b win 5 n2 F2) ∧ Aside0 (k24.R 24 wx (b + 1) (fun _ => True) vf fl2) ∧ Aside0 ((Kd.int .i16).R 49 wx (b + 1) (fun _ => True) vg got2) ∧ Aside0 (Below w.heap.size w wx))
        case first =>
          rcases HM.out with hm | hm | hm | hm | hm | hm
          · as_aux_lemma =>
              have hx2 : wc.cell? ⟨bt, 2, none⟩ = some (.int .u8 by_) := (blk_cell T3.out 2).trans rfl
              have hal : ac ≤ l.length := by have := HI.out.2.2.1.1; have := HI.out.2.2.2.1; omega
              have hl60 : l.length ≤ 60 := HL.out.1
              obtain ⟨i49, hi49, hz49⟩ := Option.map_eq_some_iff.1 info49
              simp only [Prod.mk.injEq] at hz49
              obtain ⟨A', hct, hCut, hcl⟩ := print_drop_of (P := Try.prog) (Value.int .i16) 0 44 49 .i64 Try.underlying44 hi49 hz49.2.1 A ca l (ac : Int) (by omega) (by omega) HCA.out
              rw [Int.toNat_natCast] at hct hCut hcl
              have hCq := Kd.C_of_reads (h1 := fun _ => rfl) (hCut w (Kd.reads_of_C HC.out))
              have hq0 := words_tells (l.drop ac) (by rw [List.length_drop]; omega)
              have hLen := Aside0.mk (show (l.drop ac).length ≤ 60 by rw [List.length_drop]; omega)
              have hfl := outs_FL l ac (cut F ac) 5 (now + by_) (lim win ac (l.drop ac).length) (by have := lim_le win ac (l.drop ac).length; rw [List.length_drop] at this ⊢; omega)
              have hol := outs_length (cut F ac) ac 5 (now + by_) (l.drop ac) (lim win ac (l.drop ac).length)
              generalize l.drop ac = q at hct hCut hcl hCq hq0 hLen hfl hol
              obtain ⟨O, hO⟩ : ∃ O, outs (cut F ac) ac 5 (now + by_) q (lim win ac q.length) = O := ⟨_, rfl⟩
              rw [hO] at hfl hol
              have HOl := Aside0.mk (show O.length ≤ 60 by have := lim_le win ac q.length; have := hLen.out; omega)
              have HOf := Aside0.mk hfl
              have HOq := Aside0.mk hO
              have HCq := Aside0.mk hCq
              have HQ0 := Aside0.mk hq0
              have HCL := Aside0.mk hcl
              clear hCut hCq hq0 hcl hi49 hz49 hfl hol hO
              go_wp2_with fail
              refine (tricklelaw45_words.calls A' (ca - ac) q q wc (Kd.C_below HCq.out B3.out) HCL.out HQ0.out).mono ?_
              rintro e w4 ⟨v4, rfl, ho4, hb4⟩
              obtain ⟨A4, c4, rfl, hl4, hC4⟩ := Kd.R_reads ho4
              have S4 := Aside0.mk (S3.out.below hb4)
              have B4 := Aside0.mk (below_step B3.out hb4)
              have C4 := Aside0.mk hC4
              have HL4 := Aside0.mk hl4
              have R4 := Aside0.mk (Kd.R_below R3.out hb4)
              have Q4 := Aside0.mk (Kd.R_below Q3.out hb4)
              have L4 := Aside0.mk (Kd.R_lt R4.out)
              clear ho4 hb4 hC4 hl4 hx2 hct T3 S3 R3 Q3 B3 HCq HQ0 HCL
              go_wp2_with fail
              refine (poll_fl g b n win ac (now + by_) A4 q.length c4 q F _ O w4 S4.out HG.out (by omega) (by omega) (by omega) (by have := hLen.out; omega) (by have := HI.out.2.2.2.2.2.2; omega) C4.out HL4.out rfl HOq.out rfl).mono ?_
              rintro e w5 ⟨A5, c5, rfl, hR5, hs5, hg5⟩
              have S5 := Aside0.mk hs5
              have R5 := Aside0.mk (R_mapped R4.out hg5 (Nat.lt_succ_self b))
              have Q5 := Aside0.mk (R_mapped Q4.out hg5 (Nat.lt_succ_self b))
              have B5 := Aside0.mk (below_poll B4.out hg5 hbe)
              have Y5 := Aside0.mk (show k24.R 24 w5 (b + 1) (fun q => w4.heap.size ≤ q) (.slice A5 O.length c5) O from Kd.R_lower (Kd.R_mono (Kd.R_bound hR5) (fun q hq => hq.2.1)) S4.out.ltb)
              clear hR5 hs5 hg5 S4 B4 C4 HL4 R4 Q4 HOq
              go_wp2_with ((with_reducible refine gate_builtin (b := .append) (xs := #[.tmp 73, .tmp 81]) rfl ?_); (try (refine gate_guard (by rfl) ?_; dsimp only)); at_builtin; refine Kd.R_append_rows k24 (w0 := w5) (b + 1) rfl (.tmp 73) (.tmp 81) 46 24 (.agg #[.int .i64 0, .int .i64 0, .slice none 0 0]) 40 rfl Try.underlying46 info24 rfl (by decide) (by omega) (.slice Af fl.length cf) fl O _ _ _ (fun _ => True) (fun q => w4.heap.size ≤ q) rfl rfl ?aO ?aR (fun _ _ h => h) ?aK ?aF ?aB ?aS ?aL ?_; (case aO => exact R5.out); (case aR => exact M_rows Y5.out); (case aK => exact fun q hq => ⟨trivial, fun h => by have := L4.out q h.symm; omega⟩); (case aF => exact fun _ _ => trivial); (case aB => exact Below.refl _ _); (case aS => exact S5.out.ltb); (case aL => have := HI.out.2.1; have := HOl.out; omega); intro v6 w6 ho6 hb6 hg6 hat6; have R6 := Aside0.mk ho6; have E6 := Aside0.mk hb6; have G6 := Aside0.mk hg6; clear ho6 hb6 hg6 hat6)
              have N5 := Aside0.mk (Snd.row_ne S5.out (by decide) (Kd.R_typed R5.out))
              go_meet
              case rel => exact ⟨fl ++ O, got, ac, now + by_, n + q.length, _, rfl, rfl, ⟨FL_app HI.out.1 HOf.out, by rw [List.length_append]; have := HI.out.2.1; have := HOl.out; omega, HI.out.2.2.1, HI.out.2.2.2.1, by omega, by have := HI.out.2.2.2.2.2.1; omega, by have := HI.out.2.2.2.2.2.2; have := hLen.out; omega⟩, ⟨S5.out.grown G6.out N5.out.1 N5.out.2⟩, R6, ⟨Kd.R_over' Q5.out (Kd.R_typed R5.out) (by decide) G6.out⟩, ⟨Below.trans B5.out (Below.mono E6.out (by omega))⟩⟩
          · as_aux_lemma =>
              rcases Hi.out with hz | hz
              · have z1 : ((fl.length : Int) == 0) = true := by rw [hz]; rfl
                have z2 : decide ((0 : Int) < (fl.length : Int)) = false := decide_eq_false (by omega)
                have z3 : decide (0 < fl.length) = false := decide_eq_false (by omega)
                have HZ := Aside0.mk hz
                clear hz
                go_wp2_with fail
                go_roundw
                case rel => exact ⟨k + 1, fl, got, ac, now, n, F, by omega, rfl, rfl, by go_num, ⟨⟨HI.out.1, HI.out.2.1, HI.out.2.2.1, HI.out.2.2.2.1, HI.out.2.2.2.2.1, by have := HI.out.2.2.2.2.2.1; omega, by have := HI.out.2.2.2.2.2.2; omega⟩⟩, S3, R3, Q3, B3⟩
                case measure => simp [intOf]; omega
              · have z1 : ((fl.length : Int) == 0) = false := by rw [beq_eq_false_iff_ne]; omega
                have z2 : decide ((0 : Int) < (fl.length : Int)) = true := decide_eq_true (by omega)
                have z3 : decide (0 < fl.length) = true := decide_eq_true (by omega)
                have HIL := Aside0.mk hz
                have HLN := Aside0.mk HI.out.2.1
                have HSZ := Aside0.mk (show b + 1 ≤ wc.heap.size from S3.out.ltb)
                have hi1 : (i : Int) ≤ 2000 := by have := HI.out.2.1; omega
                clear hz
                obtain ⟨nn, hnn, hfr⟩ := HI.out.1 _ (List.getElem_mem HIL.out)
                obtain ⟨ao, Ab, cb, hao, f0, f1, f2, hlb, hCb⟩ := at_T24 (Kd.R_reads' R3.out).2.2 (i : Int) (by omega) (by have := HIL.out; omega)
                rw [Int.toNat_natCast] at f0 f1 f2
                have hrd : rd_T24 fl (i : Int) = frm (nn : Int) (l.getD nn 0) := by
                  unfold rd_T24
                  rw [List.getD_eq_getElem?_getD, Int.toNat_natCast, List.getElem?_eq_getElem HIL.out]
                  exact hfr
                rw [hrd] at f0 f1 f2 hlb hCb
                have hv : -32768 ≤ l.getD nn 0 ∧ l.getD nn 0 ≤ 32767 := HLX.out _ (by rw [List.getD_eq_getElem?_getD, List.getElem?_eq_getElem hnn]; exact List.getElem_mem hnn)
                have hval := value_frm (nn : Int) (l.getD nn 0) hv
                obtain ⟨v, hvv⟩ : ∃ v, l.getD nn 0 = v := ⟨_, rfl⟩
                rw [hvv] at f0 f1 f2 hlb hCb hval
                obtain ⟨bd, hbd⟩ : ∃ bd, (frm (nn : Int) v).f2 = bd := ⟨_, rfl⟩
                rw [hbd] at f2 hlb hCb hval
                have q0 : wc.cell? (ao.add (i * 3)) = some (.int .i64 1) := f0
                have q1 : wc.cell? ⟨(ao.add (i * 3)).block, (ao.add (i * 3)).off + 1, none⟩ = some (.int .i64 (nn : Int)) := f1
                have HVV := Aside0.mk hvv
                have HV2 : Aside0 (trickleref43_Value.f 1 (nn : Int) bd = some (v, true)) := ⟨hval⟩
                have HCb := Aside0.mk hCb
                have HLB := Aside0.mk hlb
                have hgl : got.length ≤ 60 := by have := HI.out.2.2.1.1; have := HL.out.1; omega
                have hn60 : nn < 60 := by have := HL.out.1; omega
                have HIF := Aside0.mk (show (i : Int) < (fl.length : Int) by have := HIL.out; omega)
                clear f0 f1 hfr hrd hv hval hvv hbd hCb hlb
                subst hao
                have hif := HIF.out
                go_wp2_with fail
                refine (trickleref43_Value.calls 1 (nn : Int) Ab cb bd v true _ (Kd.C_alloc HCb.out _) HLB.out HV2.out).mono ?_
                rintro e w8 ⟨rfl, hb8⟩
                have HB8 := Aside0.mk (below_step (below_alloc (Below.refl _ wc) (.cells #[.int .i64 1, .int .i64 (nn : Int), .slice Ab bd.length cb] 24)) hb8)
                have x1 : w8.cell? ⟨wc.heap.size, 1, none⟩ = some (.int .i64 (nn : Int)) := (blk_cell (blk_below (blk_new wc (.cells #[.int .i64 1, .int .i64 (nn : Int), .slice Ab bd.length cb] 24)) hb8) 1).trans rfl
                have T8 := Aside0.mk (blk_below T3.out HB8.out)
                have S8 := Aside0.mk (S3.out.below HB8.out)
                have R8 := Aside0.mk (Kd.R_below R3.out HB8.out)
                have Q8 := Aside0.mk (Kd.R_below Q3.out HB8.out)
                have B8 := Aside0.mk (below_step B3.out HB8.out)
                clear hb8 hif q0 q1 f2 T3 S3 R3 Q3 B3 HCb HLB HV2 HB8 HSZ
                go_upto_if 105 with fail
                clear x1
                go_cut [10, 65] (fun vg v65 wx => ∃ got3 : List Int, Aside0 (Got l got3 ∧ got.length ≤ got3.length) ∧ Aside0 (wx.heap[bt]? = some (.cells #[.int .u8 kd, .int .u8 at_, .int .u8 by_] 60 (0, 0))) ∧ Aside0 (Snd wx g b win 5 n F) ∧ Aside0 (k24.R 24 wx (b + 1) (fun _ => True) (.slice (some ao) fl.length cf) fl) ∧ Aside0 ((Kd.int .i16).R 49 wx (b + 1) (fun _ => True) vg got3) ∧ Aside0 (Below w.heap.size w wx))
                case first =>
                  have N9 := Aside0.mk (Snd.row_ne S8.out (by decide) (Kd.R_typed Q8.out))
                  go_wp2_with ((with_reducible refine gate_builtin (b := .append) (xs := #[.tmp 106, .tmp 108]) rfl ?_); at_builtin; refine Kd.R_append (Kd.int .i16) (w0 := w8) (b + 1) rfl (.tmp 106) (.tmp 108) 44 49 (.int .i16 0) 2 rfl Try.underlying44 info49 rfl (by decide) (by omega) (.slice Ag got.length cg) got v [.int .i16 v] (fun _ => True) (fun _ => False) rfl rfl ?aP (fun _ hk => hk.elim) ?aF ?aO ?aB ?aS ?aL ?_; (case aP => exact rfl); (case aF => exact fun _ _ => trivial); (case aO => exact Q8.out); (case aB => exact Below.refl _ _); (case aS => exact S8.out.ltb); (case aL => omega); intro v9 w9 ho9 hb9 hg9 hat9; have Q9 := Aside0.mk ho9; have E9 := Aside0.mk hb9; have G9 := Aside0.mk hg9; clear ho9 hb9 hg9 hat9)
                  · have HNG := Aside0.mk (show nn = got.length by rename_i hx; have := beq_iff_eq.1 hx; omega)
                    go_meet
                    case rel => exact ⟨got ++ [v], ⟨by have h := HI.out.2.2.1.next (by have := HNG.out; omega); rw [← HNG.out, HVV.out] at h; exact h, by rw [List.length_append]; omega⟩, ⟨blk_grown T8.out G9.out (Kd.R_ne Q8.out T8.out (by decide))⟩, ⟨S8.out.grown G9.out N9.out.1 N9.out.2⟩, ⟨Kd.R_over' R8.out (Kd.R_typed Q8.out) (by decide) G9.out⟩, Q9, ⟨Below.trans B8.out (Below.mono E9.out (by omega))⟩⟩
                  · go_meet
                    case rel => exact ⟨got, ⟨HI.out.2.2.1, Nat.le_refl _⟩, T8, S8, R8, Q8, B8⟩
                case rest =>
                  obtain ⟨got3, HG3, T7, S7, R7, Q7, B7⟩ := hcut
                  clear T8 S8 R8 Q8 B8 HVV
                  have hx7 : wc.cell? ⟨bt, 0, none⟩ = some (.int .u8 kd) := (blk_cell T7.out 0).trans rfl
                  obtain ⟨Ag7, cg7, rfl⟩ := Kd.R_slice Q7.out
                  go_wp2_with fail
                  have HSZ := Aside0.mk (show b + 1 ≤ wc.heap.size from S7.out.ltb)
                  have RD := Aside0.mk (Kd.R_drew R7.out)
                  refine start_ (n := 11) (S := fun w' => True) (ds := []) #[false, false, false, false, false, false, false, false, false, false, false] (by kernel_rfl) rfl rfl trivial (fun hHeld => ?_)
                  have BD := Aside0.mk (below_drew (Below.refl wc.heap.size wc))
                  have HBW := Aside0.mk (show b + 1 ≤ wc.drew.heap.size from HSZ.out)
                  generalize wc.drew = wd at RD BD HBW ⊢
                  obtain ⟨A2, c2_, hs1, hs2, ht1, ht2⟩ := fl_parts RD.out HIL.out
                  have HT1 := Aside0.mk ht1
                  have HT2 := Aside0.mk ht2
                  clear ht1 ht2
                  have hw1 : wrap64 ((i : Int) + 1) = (i : Int) + 1 := w64 _ (by omega) (by omega)
                  refine pure_ (i := 1) (N := some 115) (v := ?_) (a' := ?_) #[false, true, false, false, false, false, false, false, false, false, false] rfl rfl (by kernel_rfl) (fun _ _ _ h => h) (Or.inl ⟨by rfl, ?_⟩) ?_ ?_
                  rotate_left
                  · intro w'
                    go_simp
                    with_reducible rfl
                  rotate_left
                  · simp only [Act.put, List.setIfInBounds_toArray, List.set_cons_zero, List.set_cons_succ, i64_w, i32_w]
                    rfl
                  refine pure_ (i := 2) (N := some 116) (v := ?_) (a' := ?_) #[false, true, true, false, false, false, false, false, false, false, false] rfl rfl (by kernel_rfl) (fun _ _ _ h => h) (Or.inl ⟨by rfl, ?_⟩) ?_ ?_
                  rotate_left
                  · intro w'
                    go_simp
                    with_reducible rfl
                  rotate_left
                  · simp only [Act.put, List.setIfInBounds_toArray, List.set_cons_zero, List.set_cons_succ, i64_w, i32_w]
                    rfl
                  refine pure_ (i := 3) (N := some 117) (v := ?_) (a' := ?_) #[false, true, true, true, false, false, false, false, false, false, false] rfl rfl (by kernel_rfl) (fun _ _ _ h => h) (Or.inl ⟨by rfl, ?_⟩) ?_ ?_
                  rotate_left
                  · intro w'
                    go_simp
                    with_reducible rfl
                  rotate_left
                  · simp only [Act.put, List.setIfInBounds_toArray, List.set_cons_zero, List.set_cons_succ, i64_w, i32_w]
                    rfl
                  refine pure_ (i := 5) (N := some 119) (v := ?_) (a' := ?_) #[false, true, true, true, false, true, false, false, false, false, false] rfl rfl (by kernel_rfl) (fun _ _ _ h => h) (Or.inl ⟨by rfl, ?_⟩) ?_ ?_
                  rotate_left
                  · intro w'
                    go_simp
                    with_reducible rfl
                  rotate_left
                  · simp only [Act.put, List.setIfInBounds_toArray, List.set_cons_zero, List.set_cons_succ, i64_w, i32_w]
                    rfl
                  refine pure_ (i := 6) (N := some 120) (v := ?_) (a' := ?_) #[false, true, true, true, false, true, true, false, false, false, false] rfl rfl (by kernel_rfl) (fun _ _ _ h => h) (Or.inl ⟨by rfl, ?_⟩) ?_ ?_
                  rotate_left
                  · intro w'
                    go_simp
                    with_reducible rfl
                  rotate_left
                  · simp only [Act.put, List.setIfInBounds_toArray, List.set_cons_zero, List.set_cons_succ, i64_w, i32_w]
                    rfl
                  refine pure_ (i := 7) (N := some 121) (v := ?_) (a' := ?_) #[false, true, true, true, false, true, true, true, false, false, false] rfl rfl (by kernel_rfl) (fun _ _ _ h => h) (Or.inl ⟨by rfl, ?_⟩) ?_ ?_
                  rotate_left
                  · intro w'
                    go_simp
                    with_reducible rfl
                  rotate_left
                  · simp only [Act.put, List.setIfInBounds_toArray, List.set_cons_zero, List.set_cons_succ, i64_w, i32_w]
                    rfl
                  refine pure_ (i := 8) (N := some 122) (v := ?_) (a' := ?_) #[false, true, true, true, false, true, true, true, true, false, false] rfl rfl (by kernel_rfl) (fun _ _ _ h => h) (Or.inl ⟨by rfl, ?_⟩) ?_ ?_
                  rotate_left
                  · intro w'
                    go_simp
                    with_reducible rfl
                  rotate_left
                  · simp only [Act.put, List.setIfInBounds_toArray, List.set_cons_zero, List.set_cons_succ, i64_w, i32_w]
                    rfl
                  clear hw1 hs1 hs2
                  refine one_ (i := 0) (N := some 114) #[true, true, true, true, false, true, true, true, true, false, false] rfl rfl (by kernel_rfl) (by decide) (fun K hK => ?_)
                  refine Kd.R_lit_step k24 (w0 := wd) (b + 1) 24 (by rfl) (N := 114) rfl (xs := []) (inner := []) (ok := fun _ => True) (okp := fun _ => False) (by go_simp <;> rfl) ⟨rfl, fun j p hj => by simp at hj⟩ (fun _ hk => hk.elim) trivial (Below.refl _ _) HBW.out (by decide) ?_
                  intro v11 w11 ho1 hb1 hg1 hat1
                  have R11 := Aside0.mk ho1
                  have E11 := Aside0.mk hb1
                  have O11 := Aside0.mk (own_new hat1)
                  have B11 := Aside0.mk (grown_new (Below.refl _ _) hg1 (fun q hq => by cases hq))
                  clear ho1 hb1 hg1 hat1
                  refine hK.out _ _ trivial (fun hHeld => ?_)
                  clear hK K
                  refine norm_ (a' := ?_) ?_ ?_
                  rotate_left
                  · show Act.put _ (some 114) _ = _
                    simp only [Act.put, List.setIfInBounds_toArray, List.set_cons_zero, List.set_cons_succ, i64_w, i32_w]
                    rfl
                  refine one_ (i := 4) (N := some 118) #[true, true, true, true, true, true, true, true, true, false, false] rfl rfl (by kernel_rfl) (by decide) (fun K hK => ?_)
                  refine Kd.R_append_rows_step k24 (w0 := wd) (b + 1) (by rfl) (.tmp 114) (.tmp 117) 46 24 (.agg #[.int .i64 0, .int .i64 0, .slice none 0 0]) 40 (by rfl) Try.underlying46 info24 rfl (by decide) (by decide) v11 [] (fl.take i) (some ao) i cf (fun _ => True) (fun q => q < wd.heap.size) (by rfl) (by rfl) R11.out (row_imp HT1.out B11.out (fun _ _ h => h)) (fun x cs h => Kd.M_step h (fun q hq _ => B11.out.block q hq)) (fun q hq => ⟨trivial, fun h => by have := O11.out q h.symm; omega⟩) (fun _ _ => trivial) E11.out (Nat.le_trans HBW.out E11.out.size) (by have := HIL.out; have := HLN.out; simp only [List.length_nil]; omega) ?_
                  intro v12 w12 ho1 hb1 hg1 hat1
                  rw [List.nil_append] at ho1
                  have R12 := Aside0.mk ho1
                  have E12 := Aside0.mk hb1
                  have B12 := Aside0.mk (grown_new B11.out hg1 O11.out)
                  have O12 := Aside0.mk (own_next hat1 O11.out B11.out.size)
                  clear ho1 hb1 hg1 hat1
                  refine hK.out _ _ trivial (fun hHeld => ?_)
                  clear hK K
                  refine norm_ (a' := ?_) ?_ ?_
                  rotate_left
                  · show Act.put _ (some 118) _ = _
                    simp only [Act.put, List.setIfInBounds_toArray, List.set_cons_zero, List.set_cons_succ, i64_w, i32_w]
                    rfl
                  refine one_ (i := 9) (N := some 123) #[true, true, true, true, true, true, true, true, true, true, false] rfl rfl (by kernel_rfl) (by decide) (fun K hK => ?_)
                  refine Kd.R_append_rows_step k24 (w0 := wd) (b + 1) (by rfl) (.tmp 118) (.tmp 122) 46 24 (.agg #[.int .i64 0, .int .i64 0, .slice none 0 0]) 40 (by rfl) Try.underlying46 info24 rfl (by decide) (by decide) v12 (fl.take i) (fl.drop (i + 1)) A2 (fl.length - (i + 1)) c2_ (fun _ => True) (fun q => q < wd.heap.size) (by rfl) (by rfl) R12.out (row_imp HT2.out B12.out (fun _ _ h => h)) (fun x cs h => Kd.M_step h (fun q hq _ => B12.out.block q hq)) (fun q hq => ⟨trivial, fun h => by have := O12.out q h.symm; omega⟩) (fun _ _ => trivial) E12.out (Nat.le_trans HBW.out E12.out.size) (by have := HIL.out; have := HLN.out; rw [List.length_take]; omega) ?_
                  intro v13 w13 ho1 hb1 hg1 hat1
                  have R13 := Aside0.mk ho1
                  have B13 := Aside0.mk (grown_new B12.out hg1 O12.out)
                  clear ho1 hb1 hg1 hat1 E11 E12 O11 O12 B11 B12 R11 R12
                  refine hK.out _ _ trivial (fun hHeld => ?_)
                  clear hK K
                  refine norm_ (a' := ?_) ?_ ?_
                  rotate_left
                  · show Act.put _ (some 123) _ = _
                    simp only [Act.put, List.setIfInBounds_toArray, List.set_cons_zero, List.set_cons_succ, i64_w, i32_w]
                    rfl
                  refine pure_ (i := 10) (N := some 9) (v := ?_) (a' := ?_) #[true, true, true, true, true, true, true, true, true, true, true] rfl rfl (by kernel_rfl) (fun _ _ _ h => h) (Or.inl ⟨by rfl, ?_⟩) ?_ ?_
                  rotate_left
                  · intro w'
                    go_simp
                    with_reducible rfl
                  rotate_left
                  · simp only [Act.put, List.setIfInBounds_toArray, List.set_cons_zero, List.set_cons_succ, i64_w, i32_w]
                    rfl
                  refine done_ (by kernel_rfl) ?_
                  have BB := Aside0.mk (show Below wc.heap.size wc w13 from Below.trans BD.out (Below.mono B13.out BD.out.size))
                  go_wp2_with fail
                  go_meet
                  case rel => exact ⟨fl.take i ++ fl.drop (i + 1), got3, ac, now, n, F, rfl, rfl, ⟨FL_cut i HI.out.1, by rw [cut_len _ _ HIL.out]; have := HI.out.2.1; omega, HG3.out.1, by have := HG3.out.2; have := HI.out.2.2.2.1; omega, HI.out.2.2.2.2.1, by have := HI.out.2.2.2.2.2.1; omega, by have := HI.out.2.2.2.2.2.2; omega⟩, ⟨S7.out.below BB.out⟩, R13, ⟨Kd.R_below Q7.out BB.out⟩, ⟨below_step B7.out BB.out⟩⟩
          · as_aux_lemma =>
              rcases Hi.out with hz | hz
              · have z1 : ((fl.length : Int) == 0) = true := by rw [hz]; rfl
                have z2 : decide ((0 : Int) < (fl.length : Int)) = false := decide_eq_false (by omega)
                have z3 : decide (0 < fl.length) = false := decide_eq_false (by omega)
                have HZ := Aside0.mk hz
                clear hz
                go_wp2_with fail
                go_roundw
                case rel => exact ⟨k + 1, fl, got, ac, now, n, F, by omega, rfl, rfl, by go_num, ⟨⟨HI.out.1, HI.out.2.1, HI.out.2.2.1, HI.out.2.2.2.1, HI.out.2.2.2.2.1, by have := HI.out.2.2.2.2.2.1; omega, by have := HI.out.2.2.2.2.2.2; omega⟩⟩, S3, R3, Q3, B3⟩
                case measure => simp [intOf]; omega
              · have z1 : ((fl.length : Int) == 0) = false := by rw [beq_eq_false_iff_ne]; omega
                have z2 : decide ((0 : Int) < (fl.length : Int)) = true := decide_eq_true (by omega)
                have z3 : decide (0 < fl.length) = true := decide_eq_true (by omega)
                have HIL := Aside0.mk hz
                have HLN := Aside0.mk HI.out.2.1
                have HSZ := Aside0.mk (show b + 1 ≤ wc.heap.size from S3.out.ltb)
                have hi1 : (i : Int) ≤ 2000 := by have := HI.out.2.1; omega
                clear hz
                obtain ⟨nn, hnn, hfr⟩ := HI.out.1 _ (List.getElem_mem HIL.out)
                obtain ⟨ao, Ab, cb, hao, f0, f1, f2, hlb, hCb⟩ := at_T24 (Kd.R_reads' R3.out).2.2 (i : Int) (by omega) (by have := HIL.out; omega)
                rw [Int.toNat_natCast] at f0 f1 f2
                have hrd : rd_T24 fl (i : Int) = frm (nn : Int) (l.getD nn 0) := by
                  unfold rd_T24
                  rw [List.getD_eq_getElem?_getD, Int.toNat_natCast, List.getElem?_eq_getElem HIL.out]
                  exact hfr
                rw [hrd] at f0 f1 f2 hlb hCb
                have hv : -32768 ≤ l.getD nn 0 ∧ l.getD nn 0 ≤ 32767 := HLX.out _ (by rw [List.getD_eq_getElem?_getD, List.getElem?_eq_getElem hnn]; exact List.getElem_mem hnn)
                have hval := value_frm (nn : Int) (l.getD nn 0) hv
                obtain ⟨v, hvv⟩ : ∃ v, l.getD nn 0 = v := ⟨_, rfl⟩
                rw [hvv] at f0 f1 f2 hlb hCb hval
                obtain ⟨bd, hbd⟩ : ∃ bd, (frm (nn : Int) v).f2 = bd := ⟨_, rfl⟩
                rw [hbd] at f2 hlb hCb hval
                have q0 : wc.cell? (ao.add (i * 3)) = some (.int .i64 1) := f0
                have q1 : wc.cell? ⟨(ao.add (i * 3)).block, (ao.add (i * 3)).off + 1, none⟩ = some (.int .i64 (nn : Int)) := f1
                have HVV := Aside0.mk hvv
                have HV2 : Aside0 (trickleref43_Value.f 1 (nn : Int) bd = some (v, true)) := ⟨hval⟩
                have HCb := Aside0.mk hCb
                have HLB := Aside0.mk hlb
                have hgl : got.length ≤ 60 := by have := HI.out.2.2.1.1; have := HL.out.1; omega
                have hn60 : nn < 60 := by have := HL.out.1; omega
                have HIF := Aside0.mk (show (i : Int) < (fl.length : Int) by have := HIL.out; omega)
                clear f0 f1 hfr hrd hv hval hvv hbd hCb hlb
                subst hao
                have hif := HIF.out
                go_wp2_with fail
                refine (trickleref43_Value.calls 1 (nn : Int) Ab cb bd v true _ (Kd.C_alloc HCb.out _) HLB.out HV2.out).mono ?_
                rintro e w8 ⟨rfl, hb8⟩
                have HB8 := Aside0.mk (below_step (below_alloc (Below.refl _ wc) (.cells #[.int .i64 1, .int .i64 (nn : Int), .slice Ab bd.length cb] 24)) hb8)
                have x1 : w8.cell? ⟨wc.heap.size, 1, none⟩ = some (.int .i64 (nn : Int)) := (blk_cell (blk_below (blk_new wc (.cells #[.int .i64 1, .int .i64 (nn : Int), .slice Ab bd.length cb] 24)) hb8) 1).trans rfl
                have T8 := Aside0.mk (blk_below T3.out HB8.out)
                have S8 := Aside0.mk (S3.out.below HB8.out)
                have R8 := Aside0.mk (Kd.R_below R3.out HB8.out)
                have Q8 := Aside0.mk (Kd.R_below Q3.out HB8.out)
                have B8 := Aside0.mk (below_step B3.out HB8.out)
                clear hb8 hif q0 q1 f2 T3 S3 R3 Q3 B3 HCb HLB HV2 HB8 HSZ
                go_upto_if 105 with fail
                clear x1
                go_cut [10, 65] (fun vg v65 wx => ∃ got3 : List Int, Aside0 (Got l got3 ∧ got.length ≤ got3.length) ∧ Aside0 (wx.heap[bt]? = some (.cells #[.int .u8 kd, .int .u8 at_, .int .u8 by_] 60 (0, 0))) ∧ Aside0 (Snd wx g b win 5 n F) ∧ Aside0 (k24.R 24 wx (b + 1) (fun _ => True) (.slice (some ao) fl.length cf) fl) ∧ Aside0 ((Kd.int .i16).R 49 wx (b + 1) (fun _ => True) vg got3) ∧ Aside0 (Below w.heap.size w wx))
                case first =>
                  have N9 := Aside0.mk (Snd.row_ne S8.out (by decide) (Kd.R_typed Q8.out))
                  go_wp2_with ((with_reducible refine gate_builtin (b := .append) (xs := #[.tmp 106, .tmp 108]) rfl ?_); at_builtin; refine Kd.R_append (Kd.int .i16) (w0 := w8) (b + 1) rfl (.tmp 106) (.tmp 108) 44 49 (.int .i16 0) 2 rfl Try.underlying44 info49 rfl (by decide) (by omega) (.slice Ag got.length cg) got v [.int .i16 v] (fun _ => True) (fun _ => False) rfl rfl ?aP (fun _ hk => hk.elim) ?aF ?aO ?aB ?aS ?aL ?_; (case aP => exact rfl); (case aF => exact fun _ _ => trivial); (case aO => exact Q8.out); (case aB => exact Below.refl _ _); (case aS => exact S8.out.ltb); (case aL => omega); intro v9 w9 ho9 hb9 hg9 hat9; have Q9 := Aside0.mk ho9; have E9 := Aside0.mk hb9; have G9 := Aside0.mk hg9; clear ho9 hb9 hg9 hat9)
                  · have HNG := Aside0.mk (show nn = got.length by rename_i hx; have := beq_iff_eq.1 hx; omega)
                    go_meet
                    case rel => exact ⟨got ++ [v], ⟨by have h := HI.out.2.2.1.next (by have := HNG.out; omega); rw [← HNG.out, HVV.out] at h; exact h, by rw [List.length_append]; omega⟩, ⟨blk_grown T8.out G9.out (Kd.R_ne Q8.out T8.out (by decide))⟩, ⟨S8.out.grown G9.out N9.out.1 N9.out.2⟩, ⟨Kd.R_over' R8.out (Kd.R_typed Q8.out) (by decide) G9.out⟩, Q9, ⟨Below.trans B8.out (Below.mono E9.out (by omega))⟩⟩
                  · go_meet
                    case rel => exact ⟨got, ⟨HI.out.2.2.1, Nat.le_refl _⟩, T8, S8, R8, Q8, B8⟩
                case rest =>
                  obtain ⟨got3, HG3, T7, S7, R7, Q7, B7⟩ := hcut
                  clear T8 S8 R8 Q8 B8 HVV
                  have hx7 : wc.cell? ⟨bt, 0, none⟩ = some (.int .u8 kd) := (blk_cell T7.out 0).trans rfl
                  obtain ⟨Ag7, cg7, rfl⟩ := Kd.R_slice Q7.out
                  go_wp2_with fail
                  go_meet
                  case rel => exact ⟨fl, got3, ac, now, n, F, rfl, rfl, ⟨HI.out.1, by have := HI.out.2.1; omega, HG3.out.1, by have := HG3.out.2; have := HI.out.2.2.2.1; omega, HI.out.2.2.2.2.1, by have := HI.out.2.2.2.2.2.1; omega, by have := HI.out.2.2.2.2.2.2; omega⟩, S7, R7, Q7, B7⟩
          · as_aux_lemma =>
              rcases Hi.out with hz | hz
              · have z1 : ((fl.length : Int) == 0) = true := by rw [hz]; rfl
                have z2 : decide ((0 : Int) < (fl.length : Int)) = false := decide_eq_false (by omega)
                have z3 : decide (0 < fl.length) = false := decide_eq_false (by omega)
                have HZ := Aside0.mk hz
                clear hz
                go_wp2_with fail
                go_meet
                case rel => exact ⟨fl, got, ac, now, n, F, rfl, rfl, ⟨HI.out.1, by have := HI.out.2.1; omega, HI.out.2.2.1, HI.out.2.2.2.1, HI.out.2.2.2.2.1, by have := HI.out.2.2.2.2.2.1; omega, by have := HI.out.2.2.2.2.2.2; omega⟩, S3, R3, Q3, B3⟩
              · have z1 : ((fl.length : Int) == 0) = false := by rw [beq_eq_false_iff_ne]; omega
                have z2 : decide ((0 : Int) < (fl.length : Int)) = true := decide_eq_true (by omega)
                have z3 : decide (0 < fl.length) = true := decide_eq_true (by omega)
                have HIL := Aside0.mk hz
                have HLN := Aside0.mk HI.out.2.1
                have HSZ := Aside0.mk (show b + 1 ≤ wc.heap.size from S3.out.ltb)
                have hi1 : (i : Int) ≤ 2000 := by have := HI.out.2.1; omega
                clear hz
                go_wp2_with fail
                have RD := Aside0.mk (Kd.R_drew R3.out)
                refine start_ (n := 11) (S := fun w' => True) (ds := []) #[false, false, false, false, false, false, false, false, false, false, false] (by kernel_rfl) rfl rfl trivial (fun hHeld => ?_)
                have BD := Aside0.mk (below_drew (Below.refl wc.heap.size wc))
                have HBW := Aside0.mk (show b + 1 ≤ wc.drew.heap.size from HSZ.out)
                generalize wc.drew = wd at RD BD HBW ⊢
                obtain ⟨A2, c2_, hs1, hs2, ht1, ht2⟩ := fl_parts RD.out HIL.out
                have HT1 := Aside0.mk ht1
                have HT2 := Aside0.mk ht2
                clear ht1 ht2
                have hw1 : wrap64 ((i : Int) + 1) = (i : Int) + 1 := w64 _ (by omega) (by omega)
                refine pure_ (i := 1) (N := some 130) (v := ?_) (a' := ?_) #[false, true, false, false, false, false, false, false, false, false, false] rfl rfl (by kernel_rfl) (fun _ _ _ h => h) (Or.inl ⟨by rfl, ?_⟩) ?_ ?_
                rotate_left
                · intro w'
                  go_simp
                  with_reducible rfl
                rotate_left
                · simp only [Act.put, List.setIfInBounds_toArray, List.set_cons_zero, List.set_cons_succ, i64_w, i32_w]
                  rfl
                refine pure_ (i := 2) (N := some 131) (v := ?_) (a' := ?_) #[false, true, true, false, false, false, false, false, false, false, false] rfl rfl (by kernel_rfl) (fun _ _ _ h => h) (Or.inl ⟨by rfl, ?_⟩) ?_ ?_
                rotate_left
                · intro w'
                  go_simp
                  with_reducible rfl
                rotate_left
                · simp only [Act.put, List.setIfInBounds_toArray, List.set_cons_zero, List.set_cons_succ, i64_w, i32_w]
                  rfl
                refine pure_ (i := 3) (N := some 132) (v := ?_) (a' := ?_) #[false, true, true, true, false, false, false, false, false, false, false] rfl rfl (by kernel_rfl) (fun _ _ _ h => h) (Or.inl ⟨by rfl, ?_⟩) ?_ ?_
                rotate_left
                · intro w'
                  go_simp
                  with_reducible rfl
                rotate_left
                · simp only [Act.put, List.setIfInBounds_toArray, List.set_cons_zero, List.set_cons_succ, i64_w, i32_w]
                  rfl
                refine pure_ (i := 5) (N := some 134) (v := ?_) (a' := ?_) #[false, true, true, true, false, true, false, false, false, false, false] rfl rfl (by kernel_rfl) (fun _ _ _ h => h) (Or.inl ⟨by rfl, ?_⟩) ?_ ?_
                rotate_left
                · intro w'
                  go_simp
                  with_reducible rfl
                rotate_left
                · simp only [Act.put, List.setIfInBounds_toArray, List.set_cons_zero, List.set_cons_succ, i64_w, i32_w]
                  rfl
                refine pure_ (i := 6) (N := some 135) (v := ?_) (a' := ?_) #[false, true, true, true, false, true, true, false, false, false, false] rfl rfl (by kernel_rfl) (fun _ _ _ h => h) (Or.inl ⟨by rfl, ?_⟩) ?_ ?_
                rotate_left
                · intro w'
                  go_simp
                  with_reducible rfl
                rotate_left
                · simp only [Act.put, List.setIfInBounds_toArray, List.set_cons_zero, List.set_cons_succ, i64_w, i32_w]
                  rfl
                refine pure_ (i := 7) (N := some 136) (v := ?_) (a' := ?_) #[false, true, true, true, false, true, true, true, false, false, false] rfl rfl (by kernel_rfl) (fun _ _ _ h => h) (Or.inl ⟨by rfl, ?_⟩) ?_ ?_
                rotate_left
                · intro w'
                  go_simp
                  with_reducible rfl
                rotate_left
                · simp only [Act.put, List.setIfInBounds_toArray, List.set_cons_zero, List.set_cons_succ, i64_w, i32_w]
                  rfl
                refine pure_ (i := 8) (N := some 137) (v := ?_) (a' := ?_) #[false, true, true, true, false, true, true, true, true, false, false] rfl rfl (by kernel_rfl) (fun _ _ _ h => h) (Or.inl ⟨by rfl, ?_⟩) ?_ ?_
                rotate_left
                · intro w'
                  go_simp
                  with_reducible rfl
                rotate_left
                · simp only [Act.put, List.setIfInBounds_toArray, List.set_cons_zero, List.set_cons_succ, i64_w, i32_w]
                  rfl
                clear hw1 hs1 hs2
                refine one_ (i := 0) (N := some 129) #[true, true, true, true, false, true, true, true, true, false, false] rfl rfl (by kernel_rfl) (by decide) (fun K hK => ?_)
                refine Kd.R_lit_step k24 (w0 := wd) (b + 1) 24 (by rfl) (N := 129) rfl (xs := []) (inner := []) (ok := fun _ => True) (okp := fun _ => False) (by go_simp <;> rfl) ⟨rfl, fun j p hj => by simp at hj⟩ (fun _ hk => hk.elim) trivial (Below.refl _ _) HBW.out (by decide) ?_
                intro v11 w11 ho1 hb1 hg1 hat1
                have R11 := Aside0.mk ho1
                have E11 := Aside0.mk hb1
                have O11 := Aside0.mk (own_new hat1)
                have B11 := Aside0.mk (grown_new (Below.refl _ _) hg1 (fun q hq => by cases hq))
                clear ho1 hb1 hg1 hat1
                refine hK.out _ _ trivial (fun hHeld => ?_)
                clear hK K
                refine norm_ (a' := ?_) ?_ ?_
                rotate_left
                · show Act.put _ (some 129) _ = _
                  simp only [Act.put, List.setIfInBounds_toArray, List.set_cons_zero, List.set_cons_succ, i64_w, i32_w]
                  rfl
                refine one_ (i := 4) (N := some 133) #[true, true, true, true, true, true, true, true, true, false, false] rfl rfl (by kernel_rfl) (by decide) (fun K hK => ?_)
                refine Kd.R_append_rows_step k24 (w0 := wd) (b + 1) (by rfl) (.tmp 129) (.tmp 132) 46 24 (.agg #[.int .i64 0, .int .i64 0, .slice none 0 0]) 40 (by rfl) Try.underlying46 info24 rfl (by decide) (by decide) v11 [] (fl.take i) Af i cf (fun _ => True) (fun q => q < wd.heap.size) (by rfl) (by rfl) R11.out (row_imp HT1.out B11.out (fun _ _ h => h)) (fun x cs h => Kd.M_step h (fun q hq _ => B11.out.block q hq)) (fun q hq => ⟨trivial, fun h => by have := O11.out q h.symm; omega⟩) (fun _ _ => trivial) E11.out (Nat.le_trans HBW.out E11.out.size) (by have := HIL.out; have := HLN.out; simp only [List.length_nil]; omega) ?_
                intro v12 w12 ho1 hb1 hg1 hat1
                rw [List.nil_append] at ho1
                have R12 := Aside0.mk ho1
                have E12 := Aside0.mk hb1
                have B12 := Aside0.mk (grown_new B11.out hg1 O11.out)
                have O12 := Aside0.mk (own_next hat1 O11.out B11.out.size)
                clear ho1 hb1 hg1 hat1
                refine hK.out _ _ trivial (fun hHeld => ?_)
                clear hK K
                refine norm_ (a' := ?_) ?_ ?_
                rotate_left
                · show Act.put _ (some 133) _ = _
                  simp only [Act.put, List.setIfInBounds_toArray, List.set_cons_zero, List.set_cons_succ, i64_w, i32_w]
                  rfl
                refine one_ (i := 9) (N := some 138) #[true, true, true, true, true, true, true, true, true, true, false] rfl rfl (by kernel_rfl) (by decide) (fun K hK => ?_)
                refine Kd.R_append_rows_step k24 (w0 := wd) (b + 1) (by rfl) (.tmp 133) (.tmp 137) 46 24 (.agg #[.int .i64 0, .int .i64 0, .slice none 0 0]) 40 (by rfl) Try.underlying46 info24 rfl (by decide) (by decide) v12 (fl.take i) (fl.drop (i + 1)) A2 (fl.length - (i + 1)) c2_ (fun _ => True) (fun q => q < wd.heap.size) (by rfl) (by rfl) R12.out (row_imp HT2.out B12.out (fun _ _ h => h)) (fun x cs h => Kd.M_step h (fun q hq _ => B12.out.block q hq)) (fun q hq => ⟨trivial, fun h => by have := O12.out q h.symm; omega⟩) (fun _ _ => trivial) E12.out (Nat.le_trans HBW.out E12.out.size) (by have := HIL.out; have := HLN.out; rw [List.length_take]; omega) ?_
                intro v13 w13 ho1 hb1 hg1 hat1
                have R13 := Aside0.mk ho1
                have B13 := Aside0.mk (grown_new B12.out hg1 O12.out)
                clear ho1 hb1 hg1 hat1 E11 E12 O11 O12 B11 B12 R11 R12
                refine hK.out _ _ trivial (fun hHeld => ?_)
                clear hK K
                refine norm_ (a' := ?_) ?_ ?_
                rotate_left
                · show Act.put _ (some 138) _ = _
                  simp only [Act.put, List.setIfInBounds_toArray, List.set_cons_zero, List.set_cons_succ, i64_w, i32_w]
                  rfl
                refine pure_ (i := 10) (N := some 9) (v := ?_) (a' := ?_) #[true, true, true, true, true, true, true, true, true, true, true] rfl rfl (by kernel_rfl) (fun _ _ _ h => h) (Or.inl ⟨by rfl, ?_⟩) ?_ ?_
                rotate_left
                · intro w'
                  go_simp
                  with_reducible rfl
                rotate_left
                · simp only [Act.put, List.setIfInBounds_toArray, List.set_cons_zero, List.set_cons_succ, i64_w, i32_w]
                  rfl
                refine done_ (by kernel_rfl) ?_
                have BB := Aside0.mk (show Below wc.heap.size wc w13 from Below.trans BD.out (Below.mono B13.out BD.out.size))
                go_wp2_with fail
                go_meet
                case rel => exact ⟨fl.take i ++ fl.drop (i + 1), got, ac, now, n, F, rfl, rfl, ⟨FL_cut i HI.out.1, by rw [cut_len _ _ HIL.out]; have := HI.out.2.1; omega, HI.out.2.2.1, HI.out.2.2.2.1, HI.out.2.2.2.2.1, by have := HI.out.2.2.2.2.2.1; omega, by have := HI.out.2.2.2.2.2.2; omega⟩, ⟨S3.out.below BB.out⟩, R13, ⟨Kd.R_below Q3.out BB.out⟩, ⟨below_step B3.out BB.out⟩⟩
          · as_aux_lemma =>
              have hx1 : wc.cell? ⟨bt, 1, none⟩ = some (.int .u8 at_) := (blk_cell T3.out 1).trans rfl
              have hgl : got.length ≤ 60 := by have := HI.out.2.2.1.1; have := HL.out.1; omega
              go_wp2_with fail
              obtain ⟨m, b5, hrc, hm1, hm2⟩ := ack_next (at_ % ((got.length : Int) + 1)) ac l.length got.length (Int.emod_nonneg _ (by omega)) (by have := Int.emod_lt_of_pos at_ (show (0 : Int) < (got.length : Int) + 1 by omega); omega) HI.out.2.2.2.1
              refine (receive_any _ 2 (at_ % ((got.length : Int) + 1)) none 0 0 ac l.length wc).mono ?_
              rw [hrc]
              rintro e w4 ⟨rfl, hw4⟩
              have BB := Aside0.mk (show Below wc.heap.size wc w4 from by rw [hw4]; exact below_alloc (Below.refl _ _) _)
              have m1 : decide ((m : Int) < (ac : Int)) = false := decide_eq_false (by omega)
              have m2 : decide (m < ac) = false := decide_eq_false (by omega)
              have m3 : decide ((got.length : Int) < (m : Int)) = false := decide_eq_false (by omega)
              have m4 : decide (got.length < m) = false := decide_eq_false (by omega)
              clear hrc hw4 hx1
              go_wp2_with fail
              go_meet
              case rel => exact ⟨fl, got, m, now, n, F, rfl, rfl, ⟨HI.out.1, by have := HI.out.2.1; omega, HI.out.2.2.1, hm2, HI.out.2.2.2.2.1, by have := HI.out.2.2.2.2.2.1; omega, by have := HI.out.2.2.2.2.2.2; omega⟩, ⟨S3.out.below BB.out⟩, ⟨Kd.R_below R3.out BB.out⟩, ⟨Kd.R_below Q3.out BB.out⟩, ⟨below_step B3.out BB.out⟩⟩
          · as_aux_lemma =>
              go_wp2_with fail
              refine (restart_any g b n win 5 F wc S3.out).mono ?_
              rintro e w4 ⟨rfl, hs4, hg4⟩
              have S4 := Aside0.mk hs4
              have G4 := Aside0.mk hg4
              clear hs4 hg4
              go_wp2_with fail
              go_meet
              case rel => exact ⟨fl, got, ac, now, 0, _, rfl, rfl, ⟨HI.out.1, by have := HI.out.2.1; omega, HI.out.2.2.1, HI.out.2.2.2.1, HI.out.2.2.2.2.1, by have := HI.out.2.2.2.2.2.1; omega, by omega⟩, S4, ⟨R_mapped R3.out G4.out (Nat.lt_succ_self b)⟩, ⟨R_mapped Q3.out G4.out (Nat.lt_succ_self b)⟩, ⟨below_poll B3.out G4.out hbe⟩⟩
        case rest =>
          obtain ⟨fl2, got2, ac2, now2, n2, F2, rfl, rfl, I6, S6, R6, Q6, B6⟩ := hcut
          clear T3 S3 R3 Q3 B3 HI HM Hi hnow hnow2
          obtain ⟨A6, c6, rfl⟩ := Kd.R_slice R6.out
          obtain ⟨Ag6, cg6, rfl⟩ := Kd.R_slice Q6.out
          have hg1 : got2.length ≤ l.length := I6.out.2.2.1.1
          have hg2 : l.length ≤ 60 := HL.out.1
          have e1 : decide ((l.length : Int) < (got2.length : Int)) = false := decide_eq_false (by omega)
          have e2 : decide (l.length < got2.length) = false := decide_eq_false (by omega)
          have e3 : decide ((got2.length : Int) ≤ (l.length : Int)) = true := decide_eq_true (by omega)
          have e4 : decide (got2.length ≤ l.length) = true := decide_eq_true (by omega)
          by_cases hf2 : fl2.length > 2000
          · have e5 : decide ((2000 : Int) < (fl2.length : Int)) = true := decide_eq_true (by omega)
            have e6 : decide (2000 < fl2.length) = true := decide_eq_true (by omega)
            clear hf2
            go_wp2_with fail
            go_ret
            exact ⟨rfl, B6.out⟩
          · have e5 : decide ((2000 : Int) < (fl2.length : Int)) = false := decide_eq_false (by omega)
            have e6 : decide (2000 < fl2.length) = false := decide_eq_false (by omega)
            have HF2 := Aside0.mk (show fl2.length ≤ 2000 by omega)
            clear hf2
            go_wp2
            go_loopw [188] (fun ix wl => ∃ j : Nat, j ≤ got2.length ∧ ix = .int .i64 j ∧ Aside0 (Below wc.heap.size wc wl)) (fun ix _ => got2.length - (intOf ix).toNat)
            case atStart => exact ⟨0, Nat.zero_le _, rfl, ⟨Below.refl _ _⟩⟩
            case round =>
              obtain ⟨j, hj, rfl, HW⟩ := hrel
              by_cases hjl : j < got2.length
              · obtain ⟨am, ham, mc⟩ := words_at (Kd.R_reads' Q6.out).2.2 j hjl
                obtain ⟨al, hal, lc⟩ := words_at HC.out j (by omega)
                rw [I6.out.2.2.1.at_ j hjl] at mc
                have mc' := pw_cell_below HW.out mc
                have lc' := pw_cell_below HW.out (pw_cell_below B6.out lc)
                have hjl2 : (j : Int) < (got2.length : Int) := by omega
                have hjl3 : (j : Int) < (l.length : Int) := by omega
                clear mc lc
                generalize l.getD j 0 = v at *
                subst ham
                subst hal
                go_wp2_with fail
                go_quiet (fail)
                go_wp2_with fail
                go_roundw
                case rel => exact ⟨j + 1, by omega, by go_num, ⟨pw_below_drewN HW.out _⟩⟩
                case measure => simp [intOf]; omega
              · go_wp2_with fail
                go_roundw
                case rel => exact ⟨k + 1, fl2, got2, ac2, now2, n2, F2, by omega, rfl, rfl, by go_num, ⟨⟨I6.out.1, HF2.out, I6.out.2.2⟩⟩, ⟨S6.out.below HW.out⟩, ⟨Kd.R_below R6.out HW.out⟩, ⟨Kd.R_below Q6.out HW.out⟩, ⟨below_step B6.out HW.out⟩⟩
                case measure => simp [intOf]; omega
    · go_wp2
      go_ret
      exact ⟨rfl, HB'.out⟩
end Go.Proofs.Ytjblfldgeemciaa.OncLaw
