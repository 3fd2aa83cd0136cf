/-
  SenderRetry: whatever the window, the messages and the rounds that are lost.
-/
import Derived.Test.YtjblfldgeemciaaOpen
set_option linter.unusedVariables false
namespace Go.Proofs.Ytjblfldgeemciaa.RetLaw
open Go.RowKit Go.ChangeShapes Go.WideShapes Go.ChangeAt Go.Maps Go.Proofs.YtjblfldgeemciaaW.PrintWords Go.Proofs.YtjblfldgeemciaaW.PrintLast Go.Proofs.Ytjblfldgeemciaa.Pr Go.Proofs.Ytjblfldgeemciaa.Sd
theorem words_tells (l : List Int) (h : l.length ≤ 1000000) : tricklelaw45_words.f l = some l := by
  unfold tricklelaw45_words.f
  simp only [Option.bind_some, List.length_nil, List.nil_append]
  rw [if_pos (by omega)]
/-- Where everything is due, every message of the window goes out. -/
theorem outs_all (F : Int → Option Int) (a retry now : Int) (l : List Int) (k : Nat) (h : ∀ i : Nat, i < k → Sd.due F retry (a + i) now = true) : outs F a retry now l k = (List.range k).map (fun i : Nat => frm (a + i) (l.getD i 0)) := by
  induction k with
  | zero => rfl
  | succ k ih =>
    unfold outs
    rw [if_pos (h k (by omega)), ih (fun i hi => h i (by omega)), List.range_succ, List.map_append]
    rfl
/-- What was sent was sent by then. -/
def Old (F : Int → Option Int) (now : Int) : Prop := ∀ k t, F k = some t → t ≤ now
theorem Old.due {F : Int → Option Int} {now : Int} (h : Old F now) (a k : Int) : Sd.due (cut F a) 5 k (now + 5) = true := by
  unfold Sd.due cut
  by_cases hk : k < a
  · rw [if_pos hk]
  · rw [if_neg hk]
    cases hF : F k with
    | none => rfl
    | some t =>
      have := h k t hF
      simp
      omega
theorem Old.aft {F : Int → Option Int} {now : Int} (h : Old F now) (a : Int) (m : Nat) : Old (aft (cut F a) a 5 (now + 5) m) (now + 5) := by
  intro k t hk
  unfold Sd.aft cut at hk
  split at hk
  · injection hk
    omega
  · split at hk
    · cases hk
    · have := h k t hk
      omega
/-- The frames of one round. -/
def rnd (l : List Int) (p m : Nat) : List S24 := (List.range m).map (fun i : Nat => frm ((p : Int) + i) ((l.drop p).getD i 0))
theorem rnd_length (l : List Int) (p m : Nat) : (rnd l p m).length = m := by simp [rnd]
theorem rnd_seq (l : List Int) (p m j : Nat) (h : j < m) : (rd_T24 (rnd l p m) (j : Int)).f1 = (p : Int) + j := by
  unfold rd_T24 rnd
  rw [List.getD_eq_getElem?_getD]
  simp [h, frm]
theorem bools_at {w : World} {B : Option Addr} {ls : List Bool} (h : Kd.bool.C w B ls.length ls) (r : Nat) (hr : r < ls.length) : ∃ bd, B = some bd ∧ w.cell? (bd.add r) = some (.bool (ls.getD r false)) := by
  obtain ⟨ad, c, e, _, hK, hc⟩ := Kd.C_get h false (r : Int) (by omega) (by omega)
  rw [Int.toNat_natCast] at hK hc
  have hK' : c = [.bool (ls.getD r false)] := hK
  subst hK'
  have := hc 0 _ rfl
  have e1 : r * Kd.bool.sz + 0 = r := by show r * 1 + 0 = r; omega
  rw [e1] at this
  exact ⟨ad, e, this⟩
theorem old_none {n : Int} : Old (fun _ => none) n := by
  intro k t h
  cases h
theorem outs_rnd (F : Int → Option Int) (now : Int) (l : List Int) (p m : Nat) (h : Old F now) : outs (cut F p) p 5 (now + 5) (l.drop p) m = rnd l p m := outs_all _ _ _ _ _ _ (fun i _ => h.due p (p + i))
theorem lim_rnd (l : List Int) (win : Int) (p : Nat) (hw : 1 ≤ win) (hp : p ≤ l.length) (hl : l.length ≤ 60) : lim win p (l.drop p).length + p ≤ l.length ∧ (p < l.length → 1 ≤ lim win p (l.drop p).length) := by
  unfold lim
  rw [List.length_drop]
  omega
set_option maxHeartbeats 4000000 in
set_option maxRecDepth 100000 in
theorem calls_in (win : Int) (A B : Option Addr) (ca cb : Nat) (l : List Int) (ls : List Bool) (w : World) (hg : good win 5) (hl : l.length ≤ 60) (hls : ls.length ≤ 60) (hca : l.length ≤ ca) (hC : (Kd.int .i16).C w A l.length l) (hD : Kd.bool.C w B ls.length ls) :
    Calls Try.prog 6 #[.int .i64 win, .slice A l.length ca, .slice B ls.length cb] w fun e w' => e = .returned (.bool true) ∧ Below w.heap.size w w' := by
  have HC := Aside0.mk hC
  have HD := Aside0.mk hD
  have HG := Aside0.mk hg
  have c1 : decide ((60 : Int) < (l.length : Int)) = false := decide_eq_false (by omega)
  have c1' : decide (60 < l.length) = false := decide_eq_false (by omega)
  have c2 : decide ((60 : Int) < (ls.length : Int)) = false := decide_eq_false (by omega)
  have c2' : decide (60 < ls.length) = false := decide_eq_false (by omega)
  clear hC hD hg
  go_enter Try.func6, Try.ntmps6
  go_wp2_with fail
  refine (new_good win 5 w HG.out).mono ?_
  rintro e w1 ⟨g, b, rfl, hs1, hge, hbe, hb1⟩
  have S1 := Aside0.mk hs1
  have B1 := Aside0.mk hb1
  clear hs1 hb1
  go_wp2_with fail
  refine (examples_any _).mono ?_
  rintro e w2 ⟨rfl, hb2⟩
  have S2 := Aside0.mk (S1.out.below hb2)
  have B2 := Aside0.mk (below_step B1.out hb2)
  clear hb2 S1 B1
  go_wp2
  go_loopw [9, 10, 11, 12] (fun ac nw nx rd wr => ∃ (r p n : Nat) (F : Int → Option Int), r ≤ l.length + ls.length ∧ p ≤ l.length ∧ Aside0 (l.length ≤ p ∨ r ≤ p + ls.length) ∧ ac = .int .i64 p ∧ nw = .int .i64 (5 * (r : Int)) ∧ nx = .int .i64 p ∧ rd = .int .i64 r ∧ Aside0 (Old F (5 * r) ∧ n ≤ 60 * r) ∧ Aside0 (Snd wr g b win 5 n F) ∧ Aside0 (Below w.heap.size w wr)) (fun _ _ _ rd _ => l.length + ls.length - (intOf rd).toNat)
  case atStart => exact ⟨0, 0, 0, fun _ => none, Nat.zero_le _, Nat.zero_le _, ⟨.inr (Nat.zero_le _)⟩, rfl, rfl, rfl, rfl, ⟨old_none, Nat.le_refl _⟩, S2, B2⟩
  case round =>
    obtain ⟨r, p, n, F, hr, hp, HP, rfl, rfl, rfl, rfl, HF, HS', HB'⟩ := hrel
    clear S2 B2
    by_cases hlt : r < l.length + ls.length
    · have hlt' : (r : Int) < (l.length : Int) + (ls.length : Int) := by omega
      obtain ⟨i49, hi49, hz49⟩ := Option.map_eq_some_iff.1 info49
      simp only [Prod.mk.injEq] at hz49
      obtain ⟨A', hcut, hCut, hcl⟩ := print_drop_of (P := Try.prog) (Value.int .i16) 0 44 49 .i64 Try.underlying44 hi49 hz49.2.1 A ca l (p : Int) (by omega) (by omega) hca
      rw [Int.toNat_natCast] at hcut hCut hcl
      have hCq := Kd.C_of_reads (h1 := fun _ => rfl) (hCut w (Kd.reads_of_C HC.out))
      have hq0 := words_tells (l.drop p) (by rw [List.length_drop]; omega)
      have hlm := lim_rnd l win p HG.out.1 hp hl
      have hLen := Aside0.mk (show (l.drop p).length ≤ 60 by rw [List.length_drop]; omega)
      have hRn := Aside0.mk (outs_rnd F (5 * r) l p (lim win p (l.drop p).length) HF.out.1)
      generalize l.drop p = q at hcut hCut hcl hCq hq0 hlm hLen hRn
      have HCq := Aside0.mk hCq
      have HQ0 := Aside0.mk hq0
      have HLM := Aside0.mk hlm
      have HCL := Aside0.mk hcl
      have hr60 : r ≤ 120 := by omega
      clear hCut hCq hq0 hlm hcl hi49 hz49
      go_wp2_with fail
      refine (tricklelaw45_words.calls A' (ca - p) q q wr (Kd.C_below HCq.out HB'.out) HCL.out HQ0.out).mono ?_
      rintro e w3 ⟨v3, rfl, ho3, hb3⟩
      obtain ⟨A3, c3, rfl, hl3, hC3⟩ := Kd.R_reads ho3
      have S3 := Aside0.mk (HS'.out.below hb3)
      have B3 := Aside0.mk (below_step HB'.out hb3)
      have C3 := Aside0.mk hC3
      clear ho3 hb3 hC3 HS' HB'
      go_wp2_with fail
      obtain ⟨O, hO⟩ : ∃ O, rnd l p (lim win p q.length) = O := ⟨_, rfl⟩
      have hOl : O.length = lim win p q.length := by rw [← hO]; exact rnd_length _ _ _
      have HOS := Aside0.mk (show ∀ j : Nat, j < O.length → (rd_T24 O (j : Int)).f1 = (p : Int) + j by
        intro j hj
        rw [hOl] at hj
        rw [← hO]
        exact rnd_seq l p _ j hj)
      have HON := Aside0.mk (show O.length + p ≤ l.length ∧ (p < l.length → 1 ≤ O.length) by rw [hOl]; exact HLM.out)
      have HOq := Aside0.mk (show outs (cut F p) p 5 (5 * r + 5) q (lim win p q.length) = O by rw [← hO]; exact hRn.out)
      clear hO hOl hRn HLM
      refine (poll_to g b n win 5 p (5 * r + 5) A3 q.length c3 q F _ O w3 S3.out HG.out (by omega) (by omega) (by omega) (by have := hLen.out; omega) (by have := HF.out.2; omega) C3.out hl3 rfl HOq.out rfl).mono ?_
      rintro e w4 ⟨A4, c4, rfl, hR4, hs4, hg4⟩
      have S4 := Aside0.mk hs4
      have R4 := Aside0.mk hR4
      have B4 := Aside0.mk (below_poll B3.out hg4 hbe)
      have F4 : Aside0 (Old (aft (cut F p) p 5 (5 * r + 5) (lim win p q.length)) (5 * ((r + 1 : Nat) : Int)) ∧ n + q.length ≤ 60 * (r + 1)) := ⟨by
        have := HF.out.1.aft p (lim win p q.length)
        rw [show 5 * ((r + 1 : Nat) : Int) = 5 * (r : Int) + 5 by omega]
        exact this, by have := HF.out.2; have := hLen.out; omega⟩
      clear hs4 hR4 hg4 S3 B3 C3 HF HOq
      have hz : (O.length = 0 ∧ p = l.length) ∨ 0 < O.length := by have := HON.out; omega
      rcases hz with ⟨hz, hpl⟩ | hz
      · have z1 : ((O.length : Int) == 0) = true := by rw [hz]; rfl
        have z2 : decide ((p : Int) < (l.length : Int)) = false := decide_eq_false (by omega)
        have z2' : decide (p < l.length) = false := decide_eq_false (by omega)
        have HZ := Aside0.mk hz
        have HPL := Aside0.mk hpl
        clear hz hpl
        by_cases hr2 : r < ls.length
        · have d1 : decide ((r : Int) < (ls.length : Int)) = true := decide_eq_true (by omega)
          have d1' : decide (r < ls.length) = true := decide_eq_true hr2
          obtain ⟨bd, hbd, hbc⟩ := bools_at HD.out r hr2
          have hbr := pw_cell_below B4.out hbc
          subst hbd
          clear hbc
          cases hls : ls.getD r false <;> rw [hls] at hbr
          · clear hls
            go_wp2
            go_loopw [11, 82] (fun nx ix wr => ∃ j : Nat, j ≤ O.length ∧ nx = .int .i64 ((p : Int) + j) ∧ ix = .int .i64 j ∧ Aside0 (Below w4.heap.size w4 wr)) (fun _ ix _ => O.length - (intOf ix).toNat)
            case atStart => exact ⟨0, Nat.zero_le _, congrArg (Value.int .i64) (by omega), rfl, ⟨Below.refl _ _⟩⟩
            case round =>
              obtain ⟨j, hj, rfl, rfl, HW⟩ := hrel
              by_cases hjl : j < O.length
              · obtain ⟨ad, A2, c2, had, h0, h1, h2, _⟩ := at_T24 (Kd.R_reads' R4.out).2.2 (j : Int) (by omega) (by omega)
                rw [Int.toNat_natCast] at h0 h1 h2
                rw [HOS.out j hjl] at h1
                have hc0 := pw_cell_below HW.out h0
                have hc1 := pw_cell_below HW.out h1
                have hc2 := pw_cell_below HW.out h2
                clear h0 h1 h2
                subst had
                have hpj : p + j < 60 := by have := HON.out; omega
                go_wp2_with fail
                go_roundw
                case rel => exact ⟨j + 1, by omega, congrArg (Value.int .i64) (by omega), by go_num, ⟨by repeat (first | exact HW.out | apply below_alloc)⟩⟩
                case measure => simp [intOf]; omega
              · have HJO := Aside0.mk (show j = O.length by omega)
                go_wp2_with fail
                refine (receive_any _ 2 ((p : Int) + j) none 0 0 p l.length _).mono ?_
                rintro e5 w5 ⟨rfl, hw5⟩
                have HB5 : Aside0 (Below w4.heap.size w4 w5) := ⟨by rw [hw5]; exact below_alloc HW.out _⟩
                have S5 := Aside0.mk (S4.out.below HB5.out)
                have B5 := Aside0.mk (below_step B4.out HB5.out)
                obtain ⟨b5, hrc⟩ : ∃ b5, rcv 2 ((p : Int) + j) 0 p l.length = (((p + O.length : Nat) : Int), b5) := by
                  have := HON.out
                  have := HJO.out
                  unfold rcv
                  split
                  · exact ⟨true, by rw [show (p : Int) + j = ((p + O.length : Nat) : Int) by omega]⟩
                  · exact ⟨false, by rw [show (p : Int) = ((p + O.length : Nat) : Int) by omega]⟩
                rw [hrc]
                clear hrc hw5
                go_wp2_with fail
                go_roundw
                case rel => exact ⟨r + 1, p + O.length, n + q.length, _, by omega, by have := HON.out; omega, ⟨by have := HP.out; have := HON.out; omega⟩, rfl, congrArg (Value.int .i64) (by omega), congrArg (Value.int .i64) (by omega), by go_num, F4, S5, B5⟩
                case measure => simp [intOf]; omega
          · clear hls
            go_wp2_with fail
            go_roundw
            case rel => exact ⟨r + 1, p, n + q.length, _, by omega, hp, ⟨by have := HP.out; omega⟩, rfl, congrArg (Value.int .i64) (by omega), rfl, by go_num, F4, S4, B4⟩
            case measure => simp [intOf]; omega
        · have d1 : decide ((r : Int) < (ls.length : Int)) = false := decide_eq_false (by omega)
          have d1' : decide (r < ls.length) = false := decide_eq_false hr2
          go_wp2
          go_loopw [11, 82] (fun nx ix wr => ∃ j : Nat, j ≤ O.length ∧ nx = .int .i64 ((p : Int) + j) ∧ ix = .int .i64 j ∧ Aside0 (Below w4.heap.size w4 wr)) (fun _ ix _ => O.length - (intOf ix).toNat)
          case atStart => exact ⟨0, Nat.zero_le _, congrArg (Value.int .i64) (by omega), rfl, ⟨Below.refl _ _⟩⟩
          case round =>
            obtain ⟨j, hj, rfl, rfl, HW⟩ := hrel
            by_cases hjl : j < O.length
            · obtain ⟨ad, A2, c2, had, h0, h1, h2, _⟩ := at_T24 (Kd.R_reads' R4.out).2.2 (j : Int) (by omega) (by omega)
              rw [Int.toNat_natCast] at h0 h1 h2
              rw [HOS.out j hjl] at h1
              have hc0 := pw_cell_below HW.out h0
              have hc1 := pw_cell_below HW.out h1
              have hc2 := pw_cell_below HW.out h2
              clear h0 h1 h2
              subst had
              have hpj : p + j < 60 := by have := HON.out; omega
              go_wp2_with fail
              go_roundw
              case rel => exact ⟨j + 1, by omega, congrArg (Value.int .i64) (by omega), by go_num, ⟨by repeat (first | exact HW.out | apply below_alloc)⟩⟩
              case measure => simp [intOf]; omega
            · have HJO := Aside0.mk (show j = O.length by omega)
              go_wp2_with fail
              refine (receive_any _ 2 ((p : Int) + j) none 0 0 p l.length _).mono ?_
              rintro e5 w5 ⟨rfl, hw5⟩
              have HB5 : Aside0 (Below w4.heap.size w4 w5) := ⟨by rw [hw5]; exact below_alloc HW.out _⟩
              have S5 := Aside0.mk (S4.out.below HB5.out)
              have B5 := Aside0.mk (below_step B4.out HB5.out)
              obtain ⟨b5, hrc⟩ : ∃ b5, rcv 2 ((p : Int) + j) 0 p l.length = (((p + O.length : Nat) : Int), b5) := by
                have := HON.out
                have := HJO.out
                unfold rcv
                split
                · exact ⟨true, by rw [show (p : Int) + j = ((p + O.length : Nat) : Int) by omega]⟩
                · exact ⟨false, by rw [show (p : Int) = ((p + O.length : Nat) : Int) by omega]⟩
              rw [hrc]
              clear hrc hw5
              go_wp2_with fail
              go_roundw
              case rel => exact ⟨r + 1, p + O.length, n + q.length, _, by omega, by have := HON.out; omega, ⟨by have := HP.out; have := HON.out; omega⟩, rfl, congrArg (Value.int .i64) (by omega), congrArg (Value.int .i64) (by omega), by go_num, F4, S5, B5⟩
              case measure => simp [intOf]; omega
      · have z1 : ((O.length : Int) == 0) = false := by rw [beq_eq_false_iff_ne]; omega
        by_cases hr2 : r < ls.length
        · have d1 : decide ((r : Int) < (ls.length : Int)) = true := decide_eq_true (by omega)
          have d1' : decide (r < ls.length) = true := decide_eq_true hr2
          obtain ⟨bd, hbd, hbc⟩ := bools_at HD.out r hr2
          have hbr := pw_cell_below B4.out hbc
          subst hbd
          clear hbc
          cases hls : ls.getD r false <;> rw [hls] at hbr
          · clear hls
            go_wp2
            go_loopw [11, 82] (fun nx ix wr => ∃ j : Nat, j ≤ O.length ∧ nx = .int .i64 ((p : Int) + j) ∧ ix = .int .i64 j ∧ Aside0 (Below w4.heap.size w4 wr)) (fun _ ix _ => O.length - (intOf ix).toNat)
            case atStart => exact ⟨0, Nat.zero_le _, congrArg (Value.int .i64) (by omega), rfl, ⟨Below.refl _ _⟩⟩
            case round =>
              obtain ⟨j, hj, rfl, rfl, HW⟩ := hrel
              by_cases hjl : j < O.length
              · obtain ⟨ad, A2, c2, had, h0, h1, h2, _⟩ := at_T24 (Kd.R_reads' R4.out).2.2 (j : Int) (by omega) (by omega)
                rw [Int.toNat_natCast] at h0 h1 h2
                rw [HOS.out j hjl] at h1
                have hc0 := pw_cell_below HW.out h0
                have hc1 := pw_cell_below HW.out h1
                have hc2 := pw_cell_below HW.out h2
                clear h0 h1 h2
                subst had
                have hpj : p + j < 60 := by have := HON.out; omega
                go_wp2_with fail
                go_roundw
                case rel => exact ⟨j + 1, by omega, congrArg (Value.int .i64) (by omega), by go_num, ⟨by repeat (first | exact HW.out | apply below_alloc)⟩⟩
                case measure => simp [intOf]; omega
              · have HJO := Aside0.mk (show j = O.length by omega)
                go_wp2_with fail
                refine (receive_any _ 2 ((p : Int) + j) none 0 0 p l.length _).mono ?_
                rintro e5 w5 ⟨rfl, hw5⟩
                have HB5 : Aside0 (Below w4.heap.size w4 w5) := ⟨by rw [hw5]; exact below_alloc HW.out _⟩
                have S5 := Aside0.mk (S4.out.below HB5.out)
                have B5 := Aside0.mk (below_step B4.out HB5.out)
                obtain ⟨b5, hrc⟩ : ∃ b5, rcv 2 ((p : Int) + j) 0 p l.length = (((p + O.length : Nat) : Int), b5) := by
                  have := HON.out
                  have := HJO.out
                  unfold rcv
                  split
                  · exact ⟨true, by rw [show (p : Int) + j = ((p + O.length : Nat) : Int) by omega]⟩
                  · exact ⟨false, by rw [show (p : Int) = ((p + O.length : Nat) : Int) by omega]⟩
                rw [hrc]
                clear hrc hw5
                go_wp2_with fail
                go_roundw
                case rel => exact ⟨r + 1, p + O.length, n + q.length, _, by omega, by have := HON.out; omega, ⟨by have := HP.out; have := HON.out; omega⟩, rfl, congrArg (Value.int .i64) (by omega), congrArg (Value.int .i64) (by omega), by go_num, F4, S5, B5⟩
                case measure => simp [intOf]; omega
          · clear hls
            go_wp2_with fail
            go_roundw
            case rel => exact ⟨r + 1, p, n + q.length, _, by omega, hp, ⟨by have := HP.out; omega⟩, rfl, congrArg (Value.int .i64) (by omega), rfl, by go_num, F4, S4, B4⟩
            case measure => simp [intOf]; omega
        · have d1 : decide ((r : Int) < (ls.length : Int)) = false := decide_eq_false (by omega)
          have d1' : decide (r < ls.length) = false := decide_eq_false hr2
          go_wp2
          go_loopw [11, 82] (fun nx ix wr => ∃ j : Nat, j ≤ O.length ∧ nx = .int .i64 ((p : Int) + j) ∧ ix = .int .i64 j ∧ Aside0 (Below w4.heap.size w4 wr)) (fun _ ix _ => O.length - (intOf ix).toNat)
          case atStart => exact ⟨0, Nat.zero_le _, congrArg (Value.int .i64) (by omega), rfl, ⟨Below.refl _ _⟩⟩
          case round =>
            obtain ⟨j, hj, rfl, rfl, HW⟩ := hrel
            by_cases hjl : j < O.length
            · obtain ⟨ad, A2, c2, had, h0, h1, h2, _⟩ := at_T24 (Kd.R_reads' R4.out).2.2 (j : Int) (by omega) (by omega)
              rw [Int.toNat_natCast] at h0 h1 h2
              rw [HOS.out j hjl] at h1
              have hc0 := pw_cell_below HW.out h0
              have hc1 := pw_cell_below HW.out h1
              have hc2 := pw_cell_below HW.out h2
              clear h0 h1 h2
              subst had
              have hpj : p + j < 60 := by have := HON.out; omega
              go_wp2_with fail
              go_roundw
              case rel => exact ⟨j + 1, by omega, congrArg (Value.int .i64) (by omega), by go_num, ⟨by repeat (first | exact HW.out | apply below_alloc)⟩⟩
              case measure => simp [intOf]; omega
            · have HJO := Aside0.mk (show j = O.length by omega)
              go_wp2_with fail
              refine (receive_any _ 2 ((p : Int) + j) none 0 0 p l.length _).mono ?_
              rintro e5 w5 ⟨rfl, hw5⟩
              have HB5 : Aside0 (Below w4.heap.size w4 w5) := ⟨by rw [hw5]; exact below_alloc HW.out _⟩
              have S5 := Aside0.mk (S4.out.below HB5.out)
              have B5 := Aside0.mk (below_step B4.out HB5.out)
              obtain ⟨b5, hrc⟩ : ∃ b5, rcv 2 ((p : Int) + j) 0 p l.length = (((p + O.length : Nat) : Int), b5) := by
                have := HON.out
                have := HJO.out
                unfold rcv
                split
                · exact ⟨true, by rw [show (p : Int) + j = ((p + O.length : Nat) : Int) by omega]⟩
                · exact ⟨false, by rw [show (p : Int) = ((p + O.length : Nat) : Int) by omega]⟩
              rw [hrc]
              clear hrc hw5
              go_wp2_with fail
              go_roundw
              case rel => exact ⟨r + 1, p + O.length, n + q.length, _, by omega, by have := HON.out; omega, ⟨by have := HP.out; have := HON.out; omega⟩, rfl, congrArg (Value.int .i64) (by omega), congrArg (Value.int .i64) (by omega), by go_num, F4, S5, B5⟩
              case measure => simp [intOf]; omega
    · have hrr : r = l.length + ls.length := by omega
      have hpp : p = l.length := by have := HP.out; omega
      have hnl : ¬ (r : Int) < (l.length : Int) + (ls.length : Int) := by omega
      have e1 : ((p : Int) == (l.length : Int)) = true := by rw [hpp]; exact beq_self_eq_true _
      clear hrr hpp
      go_wp2
      go_ret
      exact ⟨rfl, HB'.out⟩
set_option maxHeartbeats 1000000 in
set_option maxRecDepth 100000 in
theorem out0 (win : Int) (A B : Option Addr) (n m ca cb : Nat) (w : World) (hg : ¬ good win 5) :
    Calls Try.prog 6 #[.int .i64 win, .slice A n ca, .slice B m cb] w fun e w' => e = .returned (.bool true) ∧ Below w.heap.size w w' := by
  have HG := Aside0.mk hg
  clear hg
  go_enter Try.func6, Try.ntmps6
  go_wp2_with fail
  refine (new_bad win 5 w HG.out).mono ?_
  rintro e w1 ⟨rfl, rfl⟩
  have B1 := Aside0.mk (Below.refl w1.heap.size w1)
  go_wp2_with fail
  refine (examples_any _).mono ?_
  rintro e w2 ⟨rfl, hb2⟩
  have B2 := Aside0.mk (below_step B1.out hb2)
  clear hb2 B1
  go_wp2_with fail
  refine (examples_any _).mono ?_
  rintro e w3 ⟨rfl, hb3⟩
  have B3 := Aside0.mk (below_step B2.out hb3)
  clear hb3 B2
  go_wp2
  go_ret
  exact ⟨rfl, B3.out⟩
set_option maxHeartbeats 1000000 in
set_option maxRecDepth 100000 in
theorem out1 (win : Int) (A B : Option Addr) (n m ca cb : Nat) (w : World) (hg : good win 5) (h1 : 60 < n) :
    Calls Try.prog 6 #[.int .i64 win, .slice A n ca, .slice B m cb] w fun e w' => e = .returned (.bool true) ∧ Below w.heap.size w w' := by
  have HG := Aside0.mk hg
  clear hg
  have c_n : decide ((60 : Int) < (n : Int)) = true := decide_eq_true (by omega)
  have c_n' : decide (60 < n) = true := decide_eq_true (by omega)
  go_enter Try.func6, Try.ntmps6
  go_wp2_with fail
  refine (new_good win 5 w HG.out).mono ?_
  rintro e w1 ⟨g, b, rfl, hs1, hge, hbe, hb1⟩
  have B1 := Aside0.mk hb1
  clear hs1 hb1
  go_wp2_with fail
  refine (examples_any _).mono ?_
  rintro e w2 ⟨rfl, hb2⟩
  have B2 := Aside0.mk (below_step B1.out hb2)
  clear hb2 B1
  go_wp2_with fail
  refine (examples_any _).mono ?_
  rintro e w3 ⟨rfl, hb3⟩
  have B3 := Aside0.mk (below_step B2.out hb3)
  clear hb3 B2
  go_wp2
  go_ret
  exact ⟨rfl, B3.out⟩
set_option maxHeartbeats 1000000 in
set_option maxRecDepth 100000 in
theorem out2 (win : Int) (A B : Option Addr) (n m ca cb : Nat) (w : World) (hg : good win 5) (h1 : n ≤ 60) (h2 : 60 < m) :
    Calls Try.prog 6 #[.int .i64 win, .slice A n ca, .slice B m cb] w fun e w' => e = .returned (.bool true) ∧ Below w.heap.size w w' := by
  have HG := Aside0.mk hg
  clear hg
  have c_n : decide ((60 : Int) < (n : Int)) = false := decide_eq_false (by omega)
  have c_n' : decide (60 < n) = false := decide_eq_false (by omega)
  have c_m : decide ((60 : Int) < (m : Int)) = true := decide_eq_true (by omega)
  have c_m' : decide (60 < m) = true := decide_eq_true (by omega)
  go_enter Try.func6, Try.ntmps6
  go_wp2_with fail
  refine (new_good win 5 w HG.out).mono ?_
  rintro e w1 ⟨g, b, rfl, hs1, hge, hbe, hb1⟩
  have B1 := Aside0.mk hb1
  clear hs1 hb1
  go_wp2_with fail
  refine (examples_any _).mono ?_
  rintro e w2 ⟨rfl, hb2⟩
  have B2 := Aside0.mk (below_step B1.out hb2)
  clear hb2 B1
  go_wp2_with fail
  refine (examples_any _).mono ?_
  rintro e w3 ⟨rfl, hb3⟩
  have B3 := Aside0.mk (below_step B2.out hb3)
  clear hb3 B2
  go_wp2
  go_ret
  exact ⟨rfl, B3.out⟩
variable {H : Type} {enc : TypeId × Value → H}
theorem walk (W : World) (base : Nat) (v0 : Value) (d0 : DataW H) (p0 : List MemPlace) (v1 : Value) (d1 : DataW H) (p1 : List MemPlace) (v2 : Value) (d2 : DataW H) (p2 : List MemPlace) (o0 : Value.okWide Try.prog W .any base 3 v0) (h0 : DataW.Trod enc Try.prog W 0 (fun _ => true) true 3 v0 d0 p0) (o1 : Value.okWide Try.prog W .any base 44 v1) (h1 : DataW.Trod enc Try.prog W 0 (fun _ => true) true 44 v1 d1 p1) (o2 : Value.okWide Try.prog W .any base 34 v2) (h2 : DataW.Trod enc Try.prog W 0 (fun _ => true) true 34 v2 d2 p2) :
    Calls Try.prog 6 #[v0, v1, v2] W fun e w' => e = .returned (.bool true) ∧ Below W.heap.size W w' := by
  obtain ⟨win, rfl⟩ := okWide_int Try.underlying3 o0
  obtain ⟨A, ca, l, rfl, hca, hC, _⟩ := Open.open_words o1 h1
  obtain ⟨B, cb, ls, rfl, hcb, hD, _⟩ := Open.open_bools o2 h2
  by_cases hg : good win 5
  · by_cases h1 : l.length ≤ 60
    · by_cases h2 : ls.length ≤ 60
      · exact calls_in win A B ca cb l ls W hg h1 h2 hca hC hD
      · exact out2 win A B _ _ ca cb W hg h1 (by omega)
    · exact out1 win A B _ _ ca cb W hg (by omega)
  · exact out0 win A B _ _ ca cb W hg
end Go.Proofs.Ytjblfldgeemciaa.RetLaw
