/-
  COBSSplitter: whatever the bytes, the cuts and the greatest length.
-/
import Derived.Test.YtnlpckkaddpieaaSpl
import Derived.Test.YtnlpckkaddpieaaPktLaw
import Derived.Outline
set_option linter.unusedVariables false
namespace Go.Proofs.Ytnlpckkaddpieaa.SplLaw
open Go.RowKit Go.ChangeShapes Go.WideShapes Go.ChangeAt Go.Proofs.Ytnlpckkaddpieaa.Pr Go.Proofs.Ytnlpckkaddpieaa.Plain Go.Proofs.Ytnlpckkaddpieaa.Wrt Go.Proofs.Ytnlpckkaddpieaa.Pkt Go.Proofs.Ytnlpckkaddpieaa.Spl Go.Proofs.YtnlpckkaddpieaaW.PrintWords Go.Proofs.YtnlpckkaddpieaaW.PrintLast Go.Proofs.YtnlpckkaddpieaaW.PrintMore
attribute [local go_sem] max2_int min2_int max_two min_two
variable {H : Type} {enc : TypeId × Value → H}
theorem isB_app {a b : List Int} (ha : isB a) (hb : isB b) : isB (a ++ b) := fun x hx => by rcases List.mem_append.1 hx with hx | hx; exact ha x hx; exact hb x hx
theorem wp_bd (most : Int) : ∀ (l pd : List Int) (sk : Int) (out : List (List Int)), isB l → isB pd → isB (wp most l pd sk out).1 ∧ (wp most l pd sk out).1.length ≤ pd.length + l.length ∧ sk ≤ (wp most l pd sk out).2.1 ∧ (wp most l pd sk out).2.1 ≤ sk + l.length
  | [], pd, sk, out, _, hp => by rw [wp]; exact ⟨hp, by simp, Int.le_refl _, by simp⟩
  | c :: l, pd, sk, out, hl, hp => by
    have hl' : isB l := fun x hx => hl x (by simp [hx])
    have h0 : isB [] := fun x hx => by simp at hx
    have hc : isB [c] := fun x hx => by simp at hx; rw [hx]; exact hl c (by simp)
    rw [wp]
    simp only [List.length_cons]
    split
    · have h := wp_bd most l (pd ++ [c]) sk out hl' (isB_app hp hc)
      simp only [List.length_append, List.length_cons, List.length_nil] at h
      exact ⟨h.1, by omega, by omega, by push_cast; omega⟩
    · split
      · have h := wp_bd most l [] sk out hl' h0
        simp only [List.length_nil] at h
        exact ⟨h.1, by omega, by omega, by push_cast; omega⟩
      · split
        · have h := wp_bd most l [] sk (out ++ [(Dec (pd ++ [0])).1]) hl' h0
          simp only [List.length_nil] at h
          exact ⟨h.1, by omega, by omega, by push_cast; omega⟩
        · have h := wp_bd most l [] (sk + 1) out hl' h0
          simp only [List.length_nil] at h
          exact ⟨h.1, by omega, by omega, by push_cast; omega⟩
theorem wp_next (most : Int) (a l pd : List Int) (sk : Int) (gs : List (List Int)) : wp most (a ++ l) pd sk gs = wp most l (wp most a pd sk []).1 (wp most a pd sk []).2.1 (gs ++ (wp most a pd sk []).2.2) := by
  have h := wp_out most a pd sk gs []
  rw [List.append_nil] at h
  rw [wp_append, h]
theorem M_rows {α : Type} {d : Kd α} {e base n c : Nat} {ok : Nat → Prop} {w : World} {A : Option Addr} {xs : List α} (h : d.R e w base ok (.slice A n c) xs) : ReadsRow (fun x cs => d.M w base ok x cs) d.sz w A xs.length xs := by
  obtain ⟨A', c', he, hl, hr⟩ := OwnRow.reads h.2
  injection he with h1 h2 h3
  subst h1
  exact hr.imp_ (Below.refl _ _) (fun _ _ hp => d.M_mono (fun k hk => hk.1) hp)
set_option maxHeartbeats 1000000 in
set_option maxRecDepth 100000 in
theorem skipped_any (g : Nat) (most sk : Int) (v : Value) (w : World) (hG : w.heap[g]? = some (.cells #[.int .i64 most, v, .int .i64 sk] 45 (0, 0))) : Calls Try.prog 20 #[.pointer (some ⟨g, 0, none⟩)] w fun e w' => e = .returned (.int .i64 sk) ∧ w' = w := by
  have x2 : w.cell? ⟨g, 2, none⟩ = some (.int .i64 sk) := (blk_cell hG 2).trans rfl
  clear hG
  go_enter Try.func20, Try.ntmps20
  go_wp2
  go_ret
  exact ⟨rfl, rfl⟩
set_option maxHeartbeats 8000000 in
set_option maxRecDepth 100000 in
theorem calls (Ab : Option Addr) (cb : Nat) (b : List Int) (Ac : Option Addr) (cc : Nat) (cuts : List Int) (most : Int) (w : World) (hC : (Kd.int .u8).C w Ab b.length b) (hcap : b.length ≤ cb) (hx : isB b) (hCc : (Kd.int .u8).C w Ac cuts.length cuts) (hcx : isB cuts) (hl : b.length ≤ 600) (hlc : cuts.length ≤ 100) (hm0 : 1 ≤ most) (hm1 : most ≤ 65536) :
    Calls Try.prog 10 #[.slice Ab b.length cb, .slice Ac cuts.length cc, .int .i64 most] w fun e w' => e = .returned (.bool true) ∧ Below w.heap.size w w' := by
  have HC := Aside0.mk hC
  have HCP := Aside0.mk hcap
  have HX := Aside0.mk hx
  have HCC := Aside0.mk hCc
  have HCX := Aside0.mk hcx
  have HL := Aside0.mk (And.intro hl hlc)
  have c1 : decide ((600 : Int) < (b.length : Int)) = false := decide_eq_false (by omega)
  have c2 : decide (600 < b.length) = false := decide_eq_false (by omega)
  have c3 : decide ((100 : Int) < (cuts.length : Int)) = false := decide_eq_false (by omega)
  have c4 : decide (100 < cuts.length) = false := decide_eq_false (by omega)
  have c5 : decide (most < 1) = false := decide_eq_false (by omega)
  have c6 : decide ((65536 : Int) < most) = false := decide_eq_false (by omega)
  clear hC hcap hx hCc hcx hl hlc
  go_enter Try.func10, Try.ntmps10
  go_wp2_with fail
  refine (tricklelaw03_wakes.calls true _ rfl).mono ?_
  rintro e w1 ⟨rfl, hb1⟩
  have B1 := Aside0.mk hb1
  clear hb1
  go_wp2_with fail
  refine (cobs_NewSplitter.ok most w1 hm0 hm1).mono ?_
  rintro e w2 ⟨rfl, hw2⟩
  have B2 := Aside0.mk (show Below w.heap.size w w2 by rw [hw2]; exact below_alloc B1.out _)
  have G2 := Aside0.mk (show w2.heap[w1.heap.size]? = some (.cells #[.int .i64 most, .slice none 0 0, .int .i64 0] 45 (0, 0)) by rw [hw2]; exact blk_new w1 _)
  have HGE := Aside0.mk (show w.heap.size ≤ w1.heap.size from B1.out.size)
  clear hw2 B1
  generalize w1.heap.size = g at *
  go_wp2
  go_loopw [9, 10, 52] (fun vg vr ix wr => ∃ (k : Nat) (rest pd : List Int) (sk : Int) (gs : List (List Int)) (vp : Value) (Ar : Option Addr) (cr : Nat), k ≤ cuts.length ∧ ix = .int .i64 k ∧ vr = .slice Ar rest.length cr ∧ Aside0 (wp most rest pd sk gs = wp most b [] 0 [] ∧ isB rest ∧ isB pd ∧ pd.length + rest.length ≤ 600 ∧ 0 ≤ sk ∧ sk + rest.length ≤ 600 ∧ gs.length + rest.length ≤ 600) ∧ Aside0 (rest.length ≤ cr ∧ Kd.F (Kd.int .u8) w (fun q => q < w.heap.size) Ar rest.length rest) ∧ Aside0 (wr.heap[g]? = some (.cells #[.int .i64 most, vp, .int .i64 sk] 45 (0, 0))) ∧ Aside0 ((Kd.int .u8).R 5 wr 0 (fun _ => True) vp pd) ∧ Aside0 (∀ q, vp.ownBlock = some q → w.heap.size ≤ q) ∧ Aside0 ((Kd.slice 5 (Kd.int .u8)).R 22 wr w.heap.size (fun q => some q ≠ vp.ownBlock) vg gs) ∧ Aside0 (Below w.heap.size w wr)) (fun _ _ ix _ => cuts.length - (intOf ix).toNat)
  case atStart => exact ⟨0, b, [], 0, [], .slice none 0 0, Ab, cb, Nat.zero_le _, rfl, rfl, ⟨rfl, HX.out, fun x hx => by simp at hx, by have := HL.out; simp; omega, by omega, by have := HL.out; omega, by have := HL.out; simp; omega⟩, ⟨HCP.out, Kd.C_F (Kd.heap_int .u8) HC.out⟩, G2, ⟨Kd.R_nil _ _ _ _ _⟩, ⟨fun q hq => by simp [Value.ownBlock] at hq⟩, ⟨Kd.R_nil _ _ _ _ _⟩, B2⟩
  case round =>
    obtain ⟨k, rest, pd, sk, gs, vp, Ar, cr, hk, rfl, rfl, HW, HF, HG, HP, HO, HR, HB⟩ := hrel
    clear G2 B2
    have hclen : cuts.length ≤ 100 := HL.out.2
    have hrl : rest.length ≤ 600 := by have := HW.out.2.2.2.1; omega
    have hrc : rest.length ≤ cr := HF.out.1
    by_cases hlt : k < cuts.length
    · obtain ⟨ad, had, h0⟩ := Kd.at_int HCC.out (k : Int) (by omega) (by omega)
      have hbd := HCX.out (rd cuts (k : Int)) (by unfold rd; rw [List.getD_eq_getElem?_getD, Int.toNat_natCast, List.getElem?_eq_getElem hlt]; exact List.getElem_mem hlt)
      rw [Int.toNat_natCast] at h0
      generalize rd cuts (k : Int) = c at *
      subst had
      have r0 := pw_cell_below HB.out h0
      obtain ⟨hc0, hc1⟩ := hbd
      obtain ⟨n, hmn, hnl⟩ : ∃ n : Nat, (if (rest.length : Int) < c then (rest.length : Int) else c) = (n : Int) ∧ n ≤ rest.length := by
        by_cases h : (rest.length : Int) < c
        · exact ⟨rest.length, by rw [if_pos h], Nat.le_refl _⟩
        · exact ⟨c.toNat, by rw [if_neg h]; omega, by omega⟩
      have hnc : n ≤ cr := by omega
      have hnc2 : (n : Int) ≤ (cr : Int) := by omega
      have hnl2 : (n : Int) ≤ (rest.length : Int) := by omega
      clear h0
      obtain ⟨T, hT⟩ : ∃ T, T = rest.take n := ⟨_, rfl⟩
      have hTl : T.length = n := by rw [hT, List.length_take]; omega
      subst hTl
      have HT := Aside0.mk (show rest.take T.length = T from by rw [hT, List.length_take]; congr 1; omega)
      have hbT : isB T := by rw [hT]; exact isB_take HW.out.2.1 _
      have hWT := wp_tells most T pd sk [] hbT HW.out.2.2.1 (by have := HW.out.2.2.2.1; omega)
      have hbd2 := wp_bd most T pd sk [] hbT HW.out.2.2.1
      have hcnt := wp_count most T pd sk []
      have hnx := wp_next most T (rest.drop T.length) pd sk gs
      obtain ⟨pd2, sk2, ys, hwp⟩ : ∃ pd2 sk2 ys, wp most T pd sk [] = (pd2, sk2, ys) := ⟨_, _, _, rfl⟩
      rw [hwp] at hWT hbd2 hcnt hnx
      simp only [List.length_nil, Nat.zero_add] at hcnt hbd2
      have HWT := Aside0.mk hWT
      have HBD := Aside0.mk hbd2
      have HCN := Aside0.mk hcnt
      have HNX := Aside0.mk (show wp most rest pd sk gs = wp most (rest.drop T.length) pd2 sk2 (gs ++ ys) from by
        rw [← hnx]
        congr 1
        have h := List.take_append_drop T.length rest
        rw [HT.out] at h
        exact h.symm)
      clear hWT hbd2 hcnt hnx hwp hbT hT
      go_wp2_with fail
      refine (write_any most sk 10000 g vp pd T Ar cr pd2 sk2 ys wr HG.out HP.out ?hV (by omega) ?hp ?hs ⟨by omega, hm1⟩ HWT.out).mono ?_
      case hV =>
        have hf := Kd.F_take (Kd.F_below HF.out.2 HB.out) hnl
        rw [HT.out] at hf
        exact Kd.V_mono (Kd.V_mk hnc hf) (fun q hq => ⟨by have := HGE.out; omega, fun h => by have := HO.out q h.symm; omega⟩)
      case hp => have := HW.out.2.2.2.1; omega
      case hs => have := HW.out; omega
      rintro e w5 ⟨vo, vq, rfl, hS, hG5, hP5, hK5, hO5, hZ5⟩
      obtain ⟨A5, c5, rfl, hl5, _⟩ := Kd.S_reads hS
      obtain ⟨Aq, cq, rfl⟩ := Kd.R_slice hP5
      have B5 := Aside0.mk (show Below w.heap.size w w5 from Below.trans HB.out ⟨hZ5.os, hZ5.tape, hZ5.output, hZ5.size, fun i hi => hK5.2 i (by have := HB.out.size; omega) (by have := HGE.out; omega) (fun h => by have := HO.out i h.symm; omega)⟩)
      have O5 := Aside0.mk (show ∀ q, (Value.slice Aq pd2.length cq).ownBlock = some q → w.heap.size ≤ q from fun q hq => by
        rcases hO5 with h | h | ⟨q2, h, hq2⟩
        · rw [h] at hq; exact HO.out q hq
        · rw [h] at hq; cases hq
        · rw [h] at hq; injection hq with hq; have := HB.out.size; omega)
      have R5 := Aside0.mk (show (Kd.slice 5 (Kd.int .u8)).R 22 w5 w.heap.size (fun q => some q ≠ (Value.slice Aq pd2.length cq).ownBlock) u9 gs from
        Kd.R_mono (Kd.R_step (Kd.R_bound HR.out) (fun q hq hlq => hK5.2 q hlq (fun hgq => by
          obtain ⟨_, _, _, q3, hq3, cs, hcs⟩ := hq
          rw [hgq, HG.out] at hcs
          injection hcs with hcs
          injection hcs with _ h45
          exact ty22 q3 hq3 h45.symm) hq.1)) (fun q hq h => by
          rcases hO5 with h1 | h1 | ⟨q2, h1, hq2⟩
          · rw [h1] at h; exact hq.1 h
          · rw [h1] at h; cases h
          · rw [h1] at h; injection h with h; have := hq.2.2.1; omega))
      have Y5 := Aside0.mk (show (Kd.slice 5 (Kd.int .u8)).R 22 w5 w.heap.size (fun q => wr.heap.size ≤ q ∧ some q ≠ (Value.slice Aq pd2.length cq).ownBlock) (.slice A5 ys.length c5) ys from
        Kd.R_lower (Kd.R_mono (Kd.R_bound (Kd.S_R hS)) (fun q hq => ⟨hq.2.1, hq.1⟩)) HB.out.size)
      have G5 := Aside0.mk hG5
      have P5 := Aside0.mk hP5
      have L5 := Aside0.mk (show ∀ q, (u9 : Value).ownBlock = some q → q < wr.heap.size from fun q hq => by obtain ⟨cs, hc⟩ := Kd.R_typed HR.out q hq; exact blk_lt hc)
      clear hS hG5 hP5 hK5 hO5 hZ5 HG HP HO HR
      go_wp2_with ((with_reducible refine gate_builtin (b := .append) (xs := #[.tmp 61, .tmp 66]) rfl ?_); (try (refine gate_guard (by rfl) ?_; dsimp only)); at_builtin; refine Kd.R_append_rows (Kd.slice 5 (Kd.int .u8)) (w0 := w) w.heap.size rfl (.tmp 61) (.tmp 66) 30 22 (.slice none 0 0) 24 rfl Try.underlying30 info22 rfl (by decide) (by omega) u9 gs ys _ _ _ (fun q => some q ≠ (Value.slice Aq pd2.length cq).ownBlock) (fun q => wr.heap.size ≤ q ∧ some q ≠ (Value.slice Aq pd2.length cq).ownBlock) rfl rfl ?aO ?aR (fun _ _ h => h) ?aK ?aF ?aB ?aS ?aL ?_; (case aO => exact R5.out); (case aR => exact M_rows Y5.out); (case aK => exact fun q hq => ⟨hq.2, fun h => by have := L5.out q h.symm; omega⟩); (case aF => exact fun q hq h => by obtain ⟨cs, hc⟩ := Kd.R_typed P5.out q h.symm; have := blk_lt hc; omega); (case aB => exact B5.out); (case aS => exact B5.out.size); (case aL => have := HW.out.2.2.2.2.2.2; have := HCN.out; omega); intro v6 w6 ho6 hb6 hg6 hat6; have R6 := Aside0.mk ho6; have B6 := Aside0.mk hb6; have HGR := Aside0.mk hg6; clear ho6 hb6 hg6 hat6)
      have G6 := Aside0.mk (blk_grown G5.out HGR.out (Kd.R_ne R5.out G5.out (by decide)))
      have P6 := Aside0.mk (show (Kd.int .u8).R 5 w6 0 (fun _ => True) (.slice Aq pd2.length cq) pd2 from Kd.R_mono (Kd.R_grown (Kd.R_tight rfl P5.out) HGR.out (fun q hq h => by
        obtain ⟨cs, hc⟩ := Kd.R_typed P5.out q hq.symm
        obtain ⟨cs', hc'⟩ := Kd.R_typed R5.out q h.symm
        exact blk_ne hc hc' (by decide) rfl)) (fun _ _ => trivial))
      have HF2 := Aside0.mk (show (rest.drop T.length).length ≤ cr - T.length ∧ Kd.F (Kd.int .u8) w (fun q => q < w.heap.size) (if cr = T.length then Ar else Option.map (fun x => x.add T.length) Ar) (rest.drop T.length).length (rest.drop T.length) from by
        have hf := Kd.F_mid HF.out.2 hnl (Nat.le_refl _) hrc
        rw [List.take_length, show (Kd.int .u8).sz = 1 from rfl, Nat.mul_one] at hf
        exact ⟨by rw [List.length_drop]; omega, hf⟩)
      have HW3 := Aside0.mk (show wp most (rest.drop T.length) pd2 sk2 (gs ++ ys) = wp most b [] 0 [] ∧ isB (rest.drop T.length) ∧ isB pd2 ∧ pd2.length + (rest.drop T.length).length ≤ 600 ∧ 0 ≤ sk2 ∧ sk2 + (rest.drop T.length).length ≤ 600 ∧ (gs ++ ys).length + (rest.drop T.length).length ≤ 600 from by
        have h1 := HW.out
        have h2 := HBD.out
        have h3 := HCN.out
        rw [List.length_append, List.length_drop]
        exact ⟨HNX.out.symm.trans h1.1, isB_drop h1.2.1 _, h2.1, by omega, by omega, by omega, by omega⟩)
      go_roundw
      case rel => exact ⟨k + 1, rest.drop T.length, pd2, sk2, gs ++ ys, _, _, _, by omega, by go_num, by rw [List.length_drop], HW3, HF2, G6, P6, O5, R6, B6⟩
      case measure => simp [intOf]; omega
    · have hrr : rest.take rest.length = rest := List.take_length
      have hwt := wp_tells most rest pd sk [] HW.out.2.1 HW.out.2.2.1 (by have := HW.out.2.2.2.1; omega)
      have hbd2 := wp_bd most rest pd sk [] HW.out.2.1 HW.out.2.2.1
      have hcnt := wp_count most rest pd sk []
      have hnx := wp_next most rest [] pd sk gs
      rw [List.append_nil] at hnx
      obtain ⟨pd2, sk2, ys, hwp⟩ : ∃ pd2 sk2 ys, wp most rest pd sk [] = (pd2, sk2, ys) := ⟨_, _, _, rfl⟩
      rw [hwp] at hwt hbd2 hcnt hnx
      simp only [List.length_nil, Nat.zero_add] at hcnt hbd2
      have HWT := Aside0.mk hwt
      have HBD := Aside0.mk hbd2
      have HCN := Aside0.mk hcnt
      have HNX := Aside0.mk (show wp most b [] 0 [] = (pd2, sk2, gs ++ ys) from by rw [← HW.out.1, hnx, wp])
      have hnl : rest.length ≤ rest.length := Nat.le_refl _
      clear hwt hbd2 hcnt hnx hwp
      go_wp2_with fail
      refine (write_any most sk 10000 g vp pd rest Ar cr pd2 sk2 ys wr HG.out HP.out ?hV (by omega) ?hp ?hs ⟨by omega, hm1⟩ HWT.out).mono ?_
      case hV =>
        have hf := Kd.F_take (Kd.F_below HF.out.2 HB.out) hnl
        rw [hrr] at hf
        exact Kd.V_mono (Kd.V_mk hrc hf) (fun q hq => ⟨by have := HGE.out; omega, fun h => by have := HO.out q h.symm; omega⟩)
      case hp => have := HW.out.2.2.2.1; omega
      case hs => have := HW.out; omega
      rintro e w5 ⟨vo, vq, rfl, hS, hG5, hP5, hK5, hO5, hZ5⟩
      obtain ⟨A5, c5, rfl, hl5, _⟩ := Kd.S_reads hS
      obtain ⟨Aq, cq, rfl⟩ := Kd.R_slice hP5
      have B5 := Aside0.mk (show Below w.heap.size w w5 from Below.trans HB.out ⟨hZ5.os, hZ5.tape, hZ5.output, hZ5.size, fun i hi => hK5.2 i (by have := HB.out.size; omega) (by have := HGE.out; omega) (fun h => by have := HO.out i h.symm; omega)⟩)
      have O5 := Aside0.mk (show ∀ q, (Value.slice Aq pd2.length cq).ownBlock = some q → w.heap.size ≤ q from fun q hq => by
        rcases hO5 with h | h | ⟨q2, h, hq2⟩
        · rw [h] at hq; exact HO.out q hq
        · rw [h] at hq; cases hq
        · rw [h] at hq; injection hq with hq; have := HB.out.size; omega)
      have R5 := Aside0.mk (show (Kd.slice 5 (Kd.int .u8)).R 22 w5 w.heap.size (fun q => some q ≠ (Value.slice Aq pd2.length cq).ownBlock) u9 gs from
        Kd.R_mono (Kd.R_step (Kd.R_bound HR.out) (fun q hq hlq => hK5.2 q hlq (fun hgq => by
          obtain ⟨_, _, _, q3, hq3, cs, hcs⟩ := hq
          rw [hgq, HG.out] at hcs
          injection hcs with hcs
          injection hcs with _ h45
          exact ty22 q3 hq3 h45.symm) hq.1)) (fun q hq h => by
          rcases hO5 with h1 | h1 | ⟨q2, h1, hq2⟩
          · rw [h1] at h; exact hq.1 h
          · rw [h1] at h; cases h
          · rw [h1] at h; injection h with h; have := hq.2.2.1; omega))
      have Y5 := Aside0.mk (show (Kd.slice 5 (Kd.int .u8)).R 22 w5 w.heap.size (fun q => wr.heap.size ≤ q ∧ some q ≠ (Value.slice Aq pd2.length cq).ownBlock) (.slice A5 ys.length c5) ys from
        Kd.R_lower (Kd.R_mono (Kd.R_bound (Kd.S_R hS)) (fun q hq => ⟨hq.2.1, hq.1⟩)) HB.out.size)
      have G5 := Aside0.mk hG5
      have P5 := Aside0.mk hP5
      have L5 := Aside0.mk (show ∀ q, (u9 : Value).ownBlock = some q → q < wr.heap.size from fun q hq => by obtain ⟨cs, hc⟩ := Kd.R_typed HR.out q hq; exact blk_lt hc)
      clear hS hG5 hP5 hK5 hO5 hZ5 HG HP HO HR
      go_wp2_with ((with_reducible refine gate_builtin (b := .append) (xs := #[.tmp 72, .tmp 75]) rfl ?_); (try (refine gate_guard (by rfl) ?_; dsimp only)); at_builtin; refine Kd.R_append_rows (Kd.slice 5 (Kd.int .u8)) (w0 := w) w.heap.size rfl (.tmp 72) (.tmp 75) 30 22 (.slice none 0 0) 24 rfl Try.underlying30 info22 rfl (by decide) (by omega) u9 gs ys _ _ _ (fun q => some q ≠ (Value.slice Aq pd2.length cq).ownBlock) (fun q => wr.heap.size ≤ q ∧ some q ≠ (Value.slice Aq pd2.length cq).ownBlock) rfl rfl ?aO ?aR (fun _ _ h => h) ?aK ?aF ?aB ?aS ?aL ?_; (case aO => exact R5.out); (case aR => exact M_rows Y5.out); (case aK => exact fun q hq => ⟨hq.2, fun h => by have := L5.out q h.symm; omega⟩); (case aF => exact fun q hq h => by obtain ⟨cs, hc⟩ := Kd.R_typed P5.out q h.symm; have := blk_lt hc; omega); (case aB => exact B5.out); (case aS => exact B5.out.size); (case aL => have := HW.out.2.2.2.2.2.2; have := HCN.out; omega); intro v6 w6 ho6 hb6 hg6 hat6; have R6 := Aside0.mk ho6; have B6 := Aside0.mk hb6; have HGR := Aside0.mk hg6; clear ho6 hb6 hg6 hat6)
      have G6 := Aside0.mk (blk_grown G5.out HGR.out (Kd.R_ne R5.out G5.out (by decide)))
      have P6 := Aside0.mk (show (Kd.int .u8).R 5 w6 0 (fun _ => True) (.slice Aq pd2.length cq) pd2 from Kd.R_mono (Kd.R_grown (Kd.R_tight rfl P5.out) HGR.out (fun q hq h => by
        obtain ⟨cs, hc⟩ := Kd.R_typed P5.out q hq.symm
        obtain ⟨cs', hc'⟩ := Kd.R_typed R5.out q h.symm
        exact blk_ne hc hc' (by decide) rfl)) (fun _ _ => trivial))
      obtain ⟨A6, c6, rfl⟩ := Kd.R_slice R6.out
      have HSP := Aside0.mk (show trickleref03_Split.f 5000 b most = some (gs ++ ys, sk2) from by
        have h := split_tells most b HX.out HL.out.1
        rw [HNX.out] at h
        exact h)
      obtain ⟨L, hL⟩ : ∃ L, L = gs ++ ys := ⟨_, rfl⟩
      have hLl : L.length ≤ 1000 := by rw [hL, List.length_append]; have := HW.out.2.2.2.2.2.2; have := HCN.out; omega
      have HLL := Aside0.mk hLl
      rw [← hL] at HSP R6 ⊢
      clear hL hLl hrr
      refine (trickleref03_Split.calls 5000 Ab cb b most L sk2 w6 (Kd.C_below HC.out B6.out) HCP.out HSP.out).mono ?_
      rintro e w7 ⟨v7, rfl, hS7, hb7⟩
      obtain ⟨A7, c7, rfl, hl7, hC7⟩ := Kd.S_reads hS7
      have G7 := Aside0.mk (blk_below G6.out hb7)
      have B7 := Aside0.mk (below_step B6.out hb7)
      have C6 := Aside0.mk (Kd.C_below (Kd.R_reads' R6.out).2.2 hb7)
      have L6 := Aside0.mk (Kd.R_reads' R6.out).2.1
      have C7 := Aside0.mk hC7
      have L7 := Aside0.mk hl7
      clear hS7 hb7 hC7 hl7 G6 B6 R6 P6 HSP
      go_wp2_with fail
      refine (trickleref03_SamePackets.calls 1001 A6 c6 L A7 c7 L true w7 C6.out L6.out C7.out L7.out (sp_refl L HLL.out)).mono ?_
      rintro e w8 ⟨rfl, ⟨nd, rfl⟩⟩
      have B8 := Aside0.mk (show Below w.heap.size w (w7.drewN nd) from pw_below_drewN B7.out nd)
      have G8 := Aside0.mk (show (w7.drewN nd).heap[g]? = _ from G7.out)
      generalize w7.drewN nd = w8 at *
      clear G7 B7 C6 C7
      go_wp2_with fail
      refine (skipped_any g most sk2 _ w8 G8.out).mono ?_
      rintro e w9 ⟨rfl, rfl⟩
      go_wp2
      go_ret
      exact ⟨rfl, B8.out⟩
/-! ### the other ways -/
set_option maxHeartbeats 1000000 in
set_option maxRecDepth 100000 in
theorem long0 (Ab : Option Addr) (n cb : Nat) (Ac : Option Addr) (m cc : Nat) (most : Int) (w : World) (hl : n > 600) :
    Calls Try.prog 10 #[.slice Ab n cb, .slice Ac m cc, .int .i64 most] w fun e w' => e = .returned (.bool true) ∧ Below w.heap.size w w' := by
  have c1 : decide ((600 : Int) < (n : Int)) = true := decide_eq_true (by omega)
  have c2 : decide (600 < n) = true := decide_eq_true (by omega)
  clear hl
  go_enter Try.func10, Try.ntmps10
  go_wp2_with fail
  refine (tricklelaw03_wakes.calls true _ rfl).mono ?_
  rintro e w1 ⟨rfl, hb1⟩
  have B1 := Aside0.mk hb1
  clear hb1
  go_wp2
  go_ret
  exact ⟨rfl, B1.out⟩
set_option maxHeartbeats 1000000 in
set_option maxRecDepth 100000 in
theorem long1 (Ab : Option Addr) (n cb : Nat) (Ac : Option Addr) (m cc : Nat) (most : Int) (w : World) (hl : ¬ n > 600) (hm : m > 100) :
    Calls Try.prog 10 #[.slice Ab n cb, .slice Ac m cc, .int .i64 most] w fun e w' => e = .returned (.bool true) ∧ Below w.heap.size w w' := by
  have c1 : decide ((600 : Int) < (n : Int)) = false := decide_eq_false (by omega)
  have c2 : decide (600 < n) = false := decide_eq_false (by omega)
  have c3 : decide ((100 : Int) < (m : Int)) = true := decide_eq_true (by omega)
  have c4 : decide (100 < m) = true := decide_eq_true (by omega)
  clear hl hm
  go_enter Try.func10, Try.ntmps10
  go_wp2_with fail
  refine (tricklelaw03_wakes.calls true _ rfl).mono ?_
  rintro e w1 ⟨rfl, hb1⟩
  have B1 := Aside0.mk hb1
  clear hb1
  go_wp2
  go_ret
  exact ⟨rfl, B1.out⟩
set_option maxHeartbeats 1000000 in
set_option maxRecDepth 100000 in
theorem bad (Ab : Option Addr) (n cb : Nat) (Ac : Option Addr) (m cc : Nat) (most : Int) (w : World) (hl : ¬ n > 600) (hm : ¬ m > 100) (hb : most < 1 ∨ ¬ most < 1 ∧ 65536 < most) :
    Calls Try.prog 10 #[.slice Ab n cb, .slice Ac m cc, .int .i64 most] w fun e w' => e = .returned (.bool true) ∧ Below w.heap.size w w' := by
  have c1 : decide ((600 : Int) < (n : Int)) = false := decide_eq_false (by omega)
  have c2 : decide (600 < n) = false := decide_eq_false (by omega)
  have c3 : decide ((100 : Int) < (m : Int)) = false := decide_eq_false (by omega)
  have c4 : decide (100 < m) = false := decide_eq_false (by omega)
  have HB := Aside0.mk hb
  clear hl hm hb
  go_enter Try.func10, Try.ntmps10
  go_wp2_with fail
  refine (tricklelaw03_wakes.calls true _ rfl).mono ?_
  rintro e w1 ⟨rfl, hb1⟩
  have B1 := Aside0.mk hb1
  clear hb1
  go_wp2_with fail
  refine (cobs_NewSplitter.bad most w1 (by rcases HB.out with h | h; exact .inl h; exact .inr h.2)).mono ?_
  rintro e w2 ⟨rfl, rfl⟩
  rcases HB.out with h | ⟨h, h2⟩
  · have d1 : decide (most < 1) = true := decide_eq_true h
    clear h
    go_wp2
    go_ret
    exact ⟨rfl, B1.out⟩
  · have d1 : decide (most < 1) = false := decide_eq_false (by omega)
    have d2 : decide ((65536 : Int) < most) = true := decide_eq_true h2
    clear h h2
    go_wp2
    go_ret
    exact ⟨rfl, B1.out⟩
theorem bytes_of {w : World} {base : Nat} {spare : Nat → Bool} {held : Bool} {v : Value} {dd : DataW H} {p : List MemPlace} {b0 : Nat} {r : Reach} (o : Value.okWide Try.prog w r b0 22 v) (h : DataW.Trod enc Try.prog w base spare held 22 v dd p) : ∃ (a : Option Addr) (cap : Nat) (xs : List Int), v = .slice a xs.length cap ∧ xs.length ≤ cap ∧ (Kd.int .u8).C w a xs.length xs ∧ ∀ x ∈ xs, 0 ≤ x ∧ x ≤ 255 :=
  Open.rows_of (Kd.int .u8) (fun y => 0 ≤ y ∧ y ≤ 255) Try.underlying22 (by kernel_rfl) (fun fuel cs y hl h =>
    match cs, hl with
    | [x0], _ => by
      obtain ⟨n, rfl, hn⟩ := Open.int_leaf Try.underlying5 h
      exact ⟨n, rfl, Open.u8_bd hn⟩) o h
theorem walk (W : World) (base : Nat) (v0 : Value) (d0 : DataW H) (p0 : List MemPlace) (v1 : Value) (d1 : DataW H) (p1 : List MemPlace) (v2 : Value) (d2 : DataW H) (p2 : List MemPlace) (o0 : Value.okWide Try.prog W .any base 22 v0) (h0 : DataW.Trod enc Try.prog W 0 (fun _ => true) true 22 v0 d0 p0) (o1 : Value.okWide Try.prog W .any base 22 v1) (h1 : DataW.Trod enc Try.prog W 0 (fun _ => true) true 22 v1 d1 p1) (o2 : Value.okWide Try.prog W .any base 3 v2) (h2 : DataW.Trod enc Try.prog W 0 (fun _ => true) true 3 v2 d2 p2) :
    Calls Try.prog 10 #[v0, v1, v2] W fun e w' => e = .returned (.bool true) ∧ Below W.heap.size W w' := by
  obtain ⟨Ab, cb, b, rfl, hcb, hC, hx⟩ := bytes_of o0 h0
  obtain ⟨Ac, cc, cuts, rfl, hcc, hC2, hx2⟩ := bytes_of o1 h1
  obtain ⟨most, rfl⟩ := okWide_int Try.underlying3 o2
  by_cases g1 : b.length > 600
  · exact long0 Ab b.length cb Ac cuts.length cc most W g1
  by_cases g2 : cuts.length > 100
  · exact long1 Ab b.length cb Ac cuts.length cc most W g1 g2
  by_cases g3 : most < 1
  · exact bad Ab b.length cb Ac cuts.length cc most W g1 g2 (.inl g3)
  by_cases g4 : 65536 < most
  · exact bad Ab b.length cb Ac cuts.length cc most W g1 g2 (.inr ⟨g3, g4⟩)
  exact calls Ab cb b Ac cc cuts most W hC hcb hx hC2 hx2 (by omega) (by omega) (by omega) (by omega)
end Go.Proofs.Ytnlpckkaddpieaa.SplLaw
