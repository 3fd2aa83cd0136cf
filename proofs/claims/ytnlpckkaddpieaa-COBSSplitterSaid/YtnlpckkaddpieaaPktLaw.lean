/-
  COBSPackets: whatever the packets and the greatest length.
-/
import Derived.Test.YtnlpckkaddpieaaPkt
import Derived.Test.YtnlpckkaddpieaaOpen
import Derived.Outline
set_option linter.unusedVariables false
namespace Go.Proofs.Ytnlpckkaddpieaa.PktLaw
open Go.RowKit Go.ChangeShapes Go.WideShapes Go.ChangeAt Go.Proofs.Ytnlpckkaddpieaa.Pr Go.Proofs.Ytnlpckkaddpieaa.Plain Go.Proofs.Ytnlpckkaddpieaa.Wrt Go.Proofs.Ytnlpckkaddpieaa.Pkt Go.Proofs.YtnlpckkaddpieaaW.PrintWords Go.Proofs.YtnlpckkaddpieaaW.PrintLast Go.Proofs.YtnlpckkaddpieaaW.PrintMore
variable {H : Type} {enc : TypeId × Value → H}
theorem C_zero {α : Type} (d : Kd α) (w : World) (A : Option Addr) : d.C w A 0 [] := ⟨rfl, Nat.zero_le _, fun h => absurd h (by omega)⟩
set_option maxHeartbeats 4000000 in
set_option maxRecDepth 100000 in
theorem long (a : Option Addr) (n cap : Nat) (most : Int) (w : World) (hl : n > 12) :
    Calls Try.prog 6 #[.slice a n cap, .int .u8 most] w fun e w' => e = .returned (.bool true) ∧ Below w.heap.size w w' := by
  have c1 : decide ((12 : Int) < (n : Int)) = true := decide_eq_true (by omega)
  have c2 : decide (12 < n) = true := decide_eq_true (by omega)
  clear hl
  go_enter Try.func6, Try.ntmps6
  go_wp2_with fail
  refine (tricklelaw03_wakes.calls true _ rfl).mono ?_
  rintro e w1 ⟨rfl, hb1⟩
  have HB1 := Aside0.mk hb1
  clear hb1
  go_wp2
  go_ret
  exact ⟨rfl, HB1.out⟩
set_option maxHeartbeats 8000000 in
set_option maxRecDepth 100000 in
theorem calls (a : Option Addr) (cap : Nat) (xs : List (List Int)) (most : Int) (w : World) (hC : (Kd.slice 5 (Kd.int .u8)).C w a xs.length xs) (hcap : xs.length ≤ cap) (hx : ∀ x ∈ xs, ∀ y ∈ x, 0 ≤ y ∧ y ≤ 255) (hl : xs.length ≤ 12) (hm0 : 0 ≤ most) (hm1 : most ≤ 255) :
    Calls Try.prog 6 #[.slice a xs.length cap, .int .u8 most] w fun e w' => e = .returned (.bool true) ∧ Below w.heap.size w w' := by
  have HC := Aside0.mk hC
  have HCP := Aside0.mk hcap
  have HX := Aside0.mk hx
  have HL := Aside0.mk hl
  have c1 : decide ((12 : Int) < (xs.length : Int)) = false := decide_eq_false (by omega)
  have c2 : decide (12 < xs.length) = false := decide_eq_false (by omega)
  clear hC hcap hx hl
  go_enter Try.func6, Try.ntmps6
  go_wp2_with fail
  refine (tricklelaw03_wakes.calls true _ rfl).mono ?_
  rintro e w1 ⟨rfl, hb1⟩
  have HB := Aside0.mk hb1
  clear hb1
  go_wp2
  go_loopw [6, 21] (fun vs ix wr => ∃ (k : Nat) (so : List Int), k ≤ xs.length ∧ ix = .int .i64 k ∧ Aside0 (so = (xs.take k).flatMap E ∧ ∀ p ∈ xs.take k, (p.length : Int) ≤ 1 + most) ∧ Aside0 ((Kd.int .u8).R 5 wr w.heap.size (fun _ => True) vs so) ∧ Aside0 (Below w.heap.size w wr)) (fun _ ix _ => xs.length - (intOf ix).toNat)
  case atStart => exact ⟨0, [], Nat.zero_le _, rfl, ⟨by simp⟩, ⟨Kd.R_nil _ _ _ _ _⟩, HB⟩
  case round =>
    obtain ⟨k, so, hk, rfl, HSO, HR', HB'⟩ := hrel
    clear HB
    have hlen : xs.length ≤ 12 := HL.out
    have HSL := Aside0.mk (show so.length ≤ 12 * 602 by
      rw [HSO.out.1]
      have h1 := flat_len (xs.take k) (fun p hp => by have := HSO.out.2 p hp; omega)
      have h2 : (xs.take k).length ≤ 12 := by simp; omega
      omega)
    by_cases hlt : k < xs.length
    · obtain ⟨ad, A0, c0, had, h0, hlc, hC0⟩ := at_L1 HC.out (k : Int) (by omega) (by omega)
      rw [Int.toNat_natCast] at h0
      have hxe : rd_L1 xs (k : Int) = xs[k] := by
        unfold rd_L1
        rw [List.getD_eq_getElem?_getD, Int.toNat_natCast, List.getElem?_eq_getElem hlt]
        rfl
      rw [hxe] at h0 hlc hC0
      have hbd := HX.out _ (List.getElem_mem hlt)
      have HTK := Aside0.mk (List.take_succ_eq_append_getElem hlt)
      clear hxe
      generalize xs[k] = p at *
      subst had
      have r0 := pw_cell_below HB'.out h0
      have HC0 := Aside0.mk (Kd.C_below hC0 HB'.out)
      clear h0 hC0
      by_cases hp : (p.length : Int) ≤ 1 + most
      · have d1 : decide (1 + most < (p.length : Int)) = false := decide_eq_false (by omega)
        have HP := Aside0.mk hp
        have HENC := Aside0.mk (enc_tells p 10000 (by omega) hbd (by omega))
        have HEL := Aside0.mk (show (E p).length ≤ 602 by have h1 := E_len p; have h2 := size_le p.length; omega)
        obtain ⟨q, hq⟩ : ∃ q, q = E p := ⟨_, rfl⟩
        have HQ := Aside0.mk hq
        rw [← hq] at HENC HEL
        clear hp hq
        go_wp2_with fail
        refine (cobs_Encode.calls 10000 (fun z => z < wr.heap.size) A0 c0 p q wr (Kd.V_mk hlc (Kd.C_F (Kd.heap_int .u8) HC0.out)) HENC.out).mono ?_
        rintro e w2 ⟨v2, rfl, ho2, hb2⟩
        obtain ⟨A2, c2', rfl⟩ := Kd.R_slice ho2
        have B2 := Aside0.mk (below_step HB'.out hb2)
        have S2 := Aside0.mk (Kd.R_below HR'.out hb2)
        have Q2 := Aside0.mk (Kd.R_reads' ho2).2.2
        clear ho2 hb2 HB' HR' HC0 r0
        go_wp2_with ((with_reducible refine gate_builtin (b := .append) (xs := #[.tmp 29, .tmp 31]) rfl ?_); (try (refine gate_guard (by rfl) ?_; dsimp only)); at_builtin; refine Kd.R_append_rows (Kd.int .u8) (w0 := w) w.heap.size rfl (.tmp 29) (.tmp 31) 22 5 (.int .u8 0) 1 rfl Try.underlying22 info5 rfl (by decide) (by omega) u6 so q _ _ _ (fun _ => True) (fun _ => False) rfl rfl ?aO ?aR (fun _ _ h => h) (fun _ h => h.elim) ?aF ?aB ?aS ?aL ?_; (case aR => exact Q2.out); (case aB => exact B2.out); (case aF => exact (fun _ _ => trivial)); (case aO => exact S2.out); (case aS => exact B2.out.size); (case aL => have := HSL.out; have := HEL.out; omega); intro v3 w3 ho3 hb3 hg3 hat3; have S3 := Aside0.mk ho3; have B3 := Aside0.mk hb3; clear ho3 hb3 hg3 hat3)
        go_roundw
        case rel => exact ⟨k + 1, so ++ q, by omega, by go_num, ⟨by rw [HTK.out, HSO.out.1, HQ.out, List.flatMap_append]; simp, fun z hz => by rw [HTK.out] at hz; rcases List.mem_append.1 hz with hz | hz; exact HSO.out.2 z hz; (simp at hz; rw [hz]; exact HP.out)⟩, S3, B3⟩
        case measure => simp [intOf]; omega
      · have d1 : decide (1 + most < (p.length : Int)) = true := decide_eq_true (by omega)
        clear hp
        go_wp2
        go_ret
        exact ⟨rfl, HB'.out⟩
    · have hkl : k = xs.length := by omega
      subst hkl
      obtain ⟨A6, c6, rfl⟩ := Kd.R_slice HR'.out
      have HALL := Aside0.mk (show ∀ p ∈ xs, isB p ∧ p.length ≤ 300 ∧ (p.length : Int) ≤ 1 + most from fun p hp => by
        have h1 := HSO.out.2 p (by rw [List.take_length]; exact hp)
        exact ⟨HX.out p hp, by omega, h1⟩)
      have HWR := Aside0.mk (show wrF (1 + most) 10000 so [] 0 [] = some ([], 0, xs) by
        rw [HSO.out.1, List.take_length]
        exact wr_all (1 + most) 10000 (by omega) 0 xs [] HALL.out)
      go_wp2_with fail
      refine (cobs_NewSplitter.ok (1 + most) wr (by omega) (by omega)).mono ?_
      rintro e w2 ⟨rfl, rfl⟩
      go_wp2_with fail
      refine (write_any (1 + most) 0 10000 wr.heap.size (.slice none 0 0) [] so A6 c6 [] 0 xs _ (blk_new wr _) (Kd.R_nil _ _ _ _ _) ?hV ?hl (Nat.zero_le _) ⟨by omega, by omega⟩ ⟨by omega, by omega⟩ HWR.out).mono ?_
      case hV => exact Kd.V_mono (Kd.V_alloc (Kd.V_mk (Kd.R_reads' HR'.out).2.1 (Kd.C_F (Kd.heap_int .u8) (Kd.R_reads' HR'.out).2.2)) _) (fun q hq => ⟨by omega, by simp [Value.ownBlock]⟩)
      case hl => have := HSL.out; omega
      rintro e w5 ⟨vo, vp, rfl, hS, hG5, hP5, hK5, hO5, hZ5⟩
      have B5 := Aside0.mk (show Below w.heap.size w w5 from by
        have h1 := below_alloc HB'.out (.cells #[.int .i64 (1 + most), .slice none 0 0, .int .i64 0] 45)
        have h2 := HB'.out.size
        exact Below.trans h1 ⟨hZ5.os, hZ5.tape, hZ5.output, hZ5.size, fun i hi => hK5.2 i (by simp; omega) (by omega) (by simp [Value.ownBlock])⟩)
      obtain ⟨A5, c5, rfl, hl5, hC5⟩ := Kd.S_reads hS
      obtain ⟨A7, c7, rfl⟩ := Kd.R_slice hP5
      have HC5 := Aside0.mk hC5
      have HG5 := Aside0.mk hG5
      have HGE := Aside0.mk (show w.heap.size ≤ wr.heap.size from HB'.out.size)
      generalize wr.heap.size = g at *
      clear hS hG5 hP5 hK5 hO5 hZ5 hC5 HB' HR'
      go_wp2_with fail
      refine (trickleref03_SamePackets.calls 1001 A5 c5 xs a cap xs true w5 HC5.out hl5 (Kd.C_below HC.out B5.out) HCP.out (sp_refl xs (by omega))).mono ?_
      rintro e w6 ⟨rfl, ⟨nd, rfl⟩⟩
      have B6 := Aside0.mk (show Below w.heap.size w (w5.drewN nd) from pw_below_drewN B5.out nd)
      have I6 := Aside0.mk (show IsS45 w (w5.drewN nd) g (1 + most) [] 0 from ⟨A7, c7, HG5.out, HGE.out, C_zero _ _ _⟩)
      clear B5 HG5 HC5
      go_wp2_with fail
      refine (cobs_Splitter_Skipped.calls g (1 + most) [] 0 0 (1 + most) 0 w _ I6.out B6.out rfl).mono ?_
      rintro e w7 ⟨rfl, _, hb7, _⟩
      have B7 := Aside0.mk hb7
      clear hb7 B6 I6
      go_wp2
      go_ret
      exact ⟨rfl, B7.out⟩
theorem walk (W : World) (base : Nat) (v0 : Value) (d0 : DataW H) (p0 : List MemPlace) (v1 : Value) (d1 : DataW H) (p1 : List MemPlace) (o0 : Value.okWide Try.prog W .any base 30 v0) (h0 : DataW.Trod enc Try.prog W 0 (fun _ => true) true 30 v0 d0 p0) (o1 : Value.okWide Try.prog W .any base 5 v1) (h1 : DataW.Trod enc Try.prog W 0 (fun _ => true) true 5 v1 d1 p1) :
    Calls Try.prog 6 #[v0, v1] W fun e w' => e = .returned (.bool true) ∧ Below W.heap.size W w' := by
  obtain ⟨a, cap, xs, rfl, hcap, hC, hx⟩ := Open.open_packets o0 h0
  obtain ⟨most, rfl⟩ := okWide_int Try.underlying5 o1
  obtain ⟨fuel, hf⟩ := h1
  obtain ⟨m, he, hw⟩ := Open.int_leaf Try.underlying5 hf
  injection he with _ he
  subst he
  by_cases hl : xs.length > 12
  · exact long a xs.length cap most W hl
  · exact calls a cap xs most W hC hcap hx (by omega) (Open.u8_bd hw).1 (Open.u8_bd hw).2
end Go.Proofs.Ytnlpckkaddpieaa.PktLaw
