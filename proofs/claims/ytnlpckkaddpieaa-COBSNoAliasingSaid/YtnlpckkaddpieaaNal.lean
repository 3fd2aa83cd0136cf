/-
  COBSNoAliasing: whatever the bytes.
-/
import Derived.Test.YtnlpckkaddpieaaPkt
import Derived.Test.YtnlpckkaddpieaaOpen
import Derived.Outline
set_option linter.unusedVariables false
namespace Go.Proofs.Ytnlpckkaddpieaa.Nal
open Go.RowKit Go.ChangeShapes Go.WideShapes Go.ChangeAt Go.Proofs.Ytnlpckkaddpieaa.Pr Go.Proofs.Ytnlpckkaddpieaa.Plain Go.Proofs.Ytnlpckkaddpieaa.Wrt Go.Proofs.Ytnlpckkaddpieaa.Pkt Go.Proofs.YtnlpckkaddpieaaW.PrintWords Go.Proofs.YtnlpckkaddpieaaW.PrintLast Go.Proofs.YtnlpckkaddpieaaW.PrintMore
variable {H : Type} {enc : TypeId × Value → H}
theorem own_empty {α : Type} {d : Kd α} (e : TypeId) {w : World} {b g : Nat} (h : w.heap[g]? = some (.cells #[] e (0, 0))) (hb : b ≤ g) (ok : Nat → Prop) (hok : ok g) : d.R e w b ok (.slice (some ⟨g, 0, none⟩) 0 0) [] :=
  ⟨fun k hk => by have : g = k := by simpa [Value.ownBlock] using hk
                  exact this ▸ hok, [], ⟨by simp, .inr ⟨g, 0, #[], rfl, hb, h, by simp, by simp [maxLen], by simp, by simp⟩⟩, Reps.none _ _⟩
theorem own_form {α : Type} {d : Kd α} {e n c : Nat} {w : World} {b : Nat} {ok : Nat → Prop} {A : Option Addr} {xs : List α} (h : d.R e w b ok (.slice A n c) xs) (hn : 0 < n) : ∃ g, A = some ⟨g, 0, none⟩ ∧ b ≤ g := by
  obtain ⟨_, inner, ⟨_, h1 | ⟨g, cap, cells, hv, hb, _⟩⟩, _⟩ := h
  · simp at h1
    omega
  · injection hv with h1 h2 h3
    exact ⟨g, h1, hb⟩
/-- The encoding but its last byte holds no zero. -/
theorem E_take_nz (b : List Int) (k : Nat) (hk : k < (E b).length) : ∀ x ∈ (E b).take k, x ≠ 0 := by
  have hE : E b = G (b.length + 1) b ++ [0] := rfl
  intro x hx
  rw [hE, List.take_append_of_le_length (by rw [hE, List.length_append] at hk; simp at hk; omega)] at hx
  exact G_nz _ b x (List.mem_of_mem_take hx)
theorem wr_first (b : List Int) (k : Nat) (hk : k < (E b).length) : wrF 300 10000 ((E b).take k) [] 0 [] = some ((E b).take k, 0, []) := by
  have h := wr_nz 300 10000 ((E b).take k) [] [] 0 [] (E_take_nz b k hk)
  rw [List.append_nil, List.nil_append] at h
  rw [h, wrF]
theorem wr_second (b : List Int) (hb : isB b) (hl : b.length ≤ 200) (k : Nat) (hk : k < (E b).length) : wrF 300 10000 ((E b).drop k) ((E b).take k) 0 [] = some ([], 0, [b]) := by
  have h1 := wr_E 300 10000 b [] 0 [] hb (by omega) (by omega) (by omega)
  have h2 := wr_nz 300 10000 ((E b).take k) ((E b).drop k) [] 0 [] (E_take_nz b k hk)
  rw [List.take_append_drop, List.nil_append] at h2
  rw [List.append_nil] at h1
  rw [← h2, h1, wrF]
  simp
theorem C_one (w : World) (n : Nat) (A : Option Addr) (c : Nat) (b : List Int) (h : w.heap[n]? = some (.cells #[.slice A b.length c] 22 (0, 0))) (hl : b.length ≤ c) (hC : (Kd.int .u8).C w A b.length b) : (Kd.slice 5 (Kd.int .u8)).C w (some ⟨n, 0, none⟩) 1 [b] := by
  refine ⟨rfl, by decide, fun _ => ⟨⟨n, 0, none⟩, rfl, fun j x hj => ?_⟩⟩
  cases j with
  | zero =>
    have hx : b = x := by simpa using hj
    subst hx
    refine ⟨[.slice A b.length c], rfl, ⟨A, c, rfl, hl, hC⟩, fun i u hu => ?_⟩
    cases i with
    | zero =>
      have hu' : Value.slice A b.length c = u := by simpa using hu
      rw [← hu']
      have h1 := (blk_cell h 0).trans (show _ = some (Value.slice A b.length c) from rfl)
      simpa [Addr.add] using h1
    | succ i => simp at hu
  | succ j => simp at hj
set_option maxHeartbeats 8000000 in
set_option maxRecDepth 100000 in
theorem calls (Ab : Option Addr) (cb : Nat) (b : List Int) (w : World) (hC : (Kd.int .u8).C w Ab b.length b) (hcap : b.length ≤ cb) (hx : isB b) (hl : b.length ≤ 200) (h0 : 0 < b.length) :
    Calls Try.prog 9 #[.slice Ab b.length cb] w fun e w' => e = .returned (.bool true) ∧ Below w.heap.size w w' := by
  have HC := Aside0.mk hC
  have HCP := Aside0.mk hcap
  have HX := Aside0.mk hx
  have HL := Aside0.mk (And.intro hl h0)
  have c1 : decide ((200 : Int) < (b.length : Int)) = false := decide_eq_false (by omega)
  have c2 : decide (200 < b.length) = false := decide_eq_false (by omega)
  have c3 : ((b.length : Int) == 0) = false := beq_eq_false_iff_ne.mpr (by omega)
  have c4 : (b.length == 0) = false := beq_eq_false_iff_ne.mpr (by omega)
  have HENC := Aside0.mk (enc_tells b 10000 (by omega) hx (by omega))
  have hlen := E_len b
  have hsz := size_le b.length
  have hE2 : 2 ≤ (E b).length := by
    have h1 := G_pos (b.length + 1) b (by omega)
    have hE : E b = G (b.length + 1) b ++ [0] := rfl
    rw [hE, List.length_append]
    have : 0 < (G (b.length + 1) b).length := List.length_pos_iff.mpr h1
    simp
    omega
  obtain ⟨X, hX⟩ : ∃ X, X = E b := ⟨_, rfl⟩
  have HXE := Aside0.mk hX
  rw [← hX] at HENC hlen hE2
  have HXL := Aside0.mk (show 2 ≤ X.length ∧ X.length ≤ 402 by omega)
  have e1 : decide ((X.length : Int) < 2) = false := decide_eq_false (by omega)
  have e2 : decide (X.length < 2) = false := decide_eq_false (by omega)
  clear hC hcap hx hl h0 hX hlen hsz hE2
  obtain ⟨T, hT⟩ : ∃ T, T = X.take (X.length / 2) := ⟨_, rfl⟩
  have hTl : T.length = X.length / 2 := by rw [hT, List.length_take]; omega
  have HT := Aside0.mk (show T = (E b).take T.length from by rw [hTl, ← HXE.out]; exact hT)
  have hTX : T.length < X.length := by have := HXL.out; omega
  have hK : wrap64 ((X.length : Int) / 2) = (T.length : Int) := by unfold wrap64; have := HXL.out; omega
  have HTX := Aside0.mk hTX
  have HW1 := Aside0.mk (show wrF 300 10000 T [] 0 [] = some (T, 0, []) by have h := wr_first b T.length (by rw [← HXE.out]; exact hTX); rw [← HT.out] at h; exact h)
  obtain ⟨U, hU⟩ : ∃ U, U = X.drop T.length := ⟨_, rfl⟩
  have HU := Aside0.mk hU
  have HW2 := Aside0.mk (show wrF 300 10000 U T 0 [] = some ([], 0, [b]) by have h := wr_second b HX.out HL.out.1 T.length (by rw [← HXE.out]; exact hTX); rw [← HT.out, ← HXE.out, ← hU] at h; exact h)
  clear hT hTl hU
  go_enter Try.func9, Try.ntmps9
  go_wp2_with fail
  refine (tricklelaw03_wakes.calls true _ rfl).mono ?_
  rintro e w1 ⟨rfl, hb1⟩
  have B1 := Aside0.mk hb1
  clear hb1
  go_wp2_with fail
  refine (cobs_Encode.calls 10000 (fun z => z < w1.heap.size) Ab cb b X w1 (Kd.V_mk HCP.out (Kd.C_F (Kd.heap_int .u8) (Kd.C_below HC.out B1.out))) HENC.out).mono ?_
  rintro e w2 ⟨v2, rfl, ho2, hb2⟩
  obtain ⟨Ax, cx, rfl⟩ := Kd.R_slice ho2
  have B2 := Aside0.mk (below_step B1.out hb2)
  have X2 := Aside0.mk (Kd.R_mono (Kd.R_lower ho2 B1.out.size) (fun _ _ => trivial) : (Kd.int .u8).R 5 w2 w.heap.size (fun _ => True) (.slice Ax X.length cx) X)
  clear ho2 hb2 B1
  go_wp2_with fail
  refine (cobs_NewSplitter.ok 300 w2 (by omega) (by omega)).mono ?_
  rintro e w3 ⟨rfl, hw3⟩
  have B3 := Aside0.mk (show Below w.heap.size w w3 by rw [hw3]; exact below_alloc B2.out _)
  have X3 := Aside0.mk (show (Kd.int .u8).R 5 w3 w.heap.size (fun _ => True) (.slice Ax X.length cx) X by rw [hw3]; exact Kd.R_alloc X2.out _)
  have G3 := Aside0.mk (show w3.heap[w2.heap.size]? = some (.cells #[.int .i64 300, .slice none 0 0, .int .i64 0] 45 (0, 0)) by rw [hw3]; exact blk_new w2 _)
  have HGE := Aside0.mk (show w.heap.size ≤ w2.heap.size from B2.out.size)
  clear hw3 B2 X2
  generalize w2.heap.size = g at *
  have hg3 := blk_lt G3.out
  go_wp2_with ((with_reducible refine gate_builtin (b := .append) (xs := #[.tmp 40, .tmp 41]) rfl ?_); (try (refine gate_guard (by rfl) ?_; dsimp only)); at_builtin; refine Kd.R_append_rows (Kd.int .u8) (w0 := w3) w3.heap.size rfl (.tmp 40) (.tmp 41) 22 5 (.int .u8 0) 1 rfl Try.underlying22 info5 rfl (by decide) (by omega) (.slice (some ⟨w3.heap.size, 0, none⟩) 0 0) [] X _ _ _ (fun _ => True) (fun _ => False) rfl rfl ?aO ?aR (fun _ _ h => h) (fun _ h => h.elim) ?aF ?aB ?aS ?aL ?_; (case aR => exact Kd.C_alloc (Kd.R_reads' X3.out).2.2 _); (case aB => exact below_alloc (Below.refl _ _) _); (case aF => exact (fun _ _ => trivial)); (case aO => exact own_empty 5 (blk_new w3 _) (Nat.le_refl _) _ trivial); (case aS => simp); (case aL => have := HXL.out; simp; omega); intro v4 w4 ho4 hb4 hg4 hat4; rw [List.nil_append] at ho4; obtain ⟨Ao, co, e4⟩ := Kd.R_slice ho4; subst e4; have hco := (Kd.R_reads' ho4).2.1; have hKc : T.length ≤ co := (by omega); have hKi : (T.length : Int) ≤ (co : Int) := (by omega); have O4 := Aside0.mk ho4; have Z4 := Aside0.mk hb4; clear ho4 hb4 hg4 hat4)
  have OT := Aside0.mk (Kd.R_tight rfl O4.out)
  have hfo := own_form O4.out (by have := HXL.out; omega)
  obtain ⟨bo, rfl, hbo⟩ := hfo
  have hfx := own_form X3.out (by have := HXL.out; omega)
  obtain ⟨bx, rfl, hbx⟩ := hfx
  have HBX := Aside0.mk (show bx < w3.heap.size by obtain ⟨cs, hc⟩ := Kd.R_typed X3.out bx rfl; exact blk_lt hc)
  have HBO := Aside0.mk (show w3.heap.size ≤ bo ∧ w.heap.size ≤ bx from ⟨hbo, hbx⟩)
  have HGX := Aside0.mk (show g ≠ bx by obtain ⟨cs, hc⟩ := Kd.R_typed X3.out bx rfl; exact blk_ne G3.out hc (by decide))
  have B4 := Aside0.mk (below_step B3.out Z4.out)
  have X4 := Aside0.mk (Kd.R_below X3.out Z4.out)
  have G4 := Aside0.mk (blk_below G3.out Z4.out)
  have HGO := Aside0.mk (show g ≠ bo ∧ bx ≠ bo by have := HBX.out; omega)
  clear B3 X3 G3 hbo hbx
  refine (write_any 300 0 10000 g (.slice none 0 0) [] T (some ⟨bo, 0, none⟩) co T 0 [] w4 G4.out (Kd.R_nil _ _ _ _ _) ?hV ?hl (Nat.zero_le _) ⟨by omega, by omega⟩ ⟨by omega, by omega⟩ HW1.out).mono ?_
  case hV =>
    have hf := Kd.F_take (Kd.R_F OT.out) (show T.length ≤ X.length by have := HTX.out; omega)
    have e : X.take T.length = T := by have h := HT.out; rw [HXE.out]; exact h.symm
    rw [e] at hf
    exact Kd.V_mono (Kd.V_mk hKc hf) (fun q hq => ⟨fun h => by
      have h1 : q = bo := by simpa [Value.ownBlock] using hq
      exact HGO.out.1 (by rw [← h, h1]), by simp [Value.ownBlock]⟩)
  case hl => have := HXL.out; have := HTX.out; omega
  rintro e w5 ⟨vo5, vp, rfl, _, hG5, hP5, hK5, hO5, hZ5⟩
  have HK5 := Aside0.mk (show KeepBut w4 w5 g none from hK5)
  obtain ⟨Ap, cp, rfl⟩ := Kd.R_slice hP5
  have HP5 := Aside0.mk hP5
  have HG5 := Aside0.mk hG5
  have HP5b := Aside0.mk (show ∀ q, (Value.slice Ap T.length cp).ownBlock = some q → w.heap.size ≤ q from fun q hq => by
    rcases hO5 with h | h | ⟨q2, h, hq2⟩
    · rw [h] at hq; simp [Value.ownBlock] at hq
    · rw [h] at hq; cases hq
    · rw [h] at hq; injection hq with hq; have := B4.out.size; omega)
  have HPO := Aside0.mk (show (Value.slice Ap T.length cp).ownBlock ≠ some bo ∧ (Value.slice Ap T.length cp).ownBlock ≠ some bx ∧ (Value.slice Ap T.length cp).ownBlock ≠ some g from by
    obtain ⟨cs, hc⟩ := Kd.R_typed O4.out bo rfl
    have h1 := blk_lt hc
    have h2 := blk_lt G4.out
    have h3 := HBX.out
    have h4 := HBO.out.1
    rcases hO5 with h | h | ⟨q, h, hq⟩
    · rw [h]; simp [Value.ownBlock]
    · rw [h]; simp
    · rw [h]
      refine ⟨?_, ?_, ?_⟩ <;> (intro he; injection he with he; omega))
  have B5 := Aside0.mk (show Below w.heap.size w w5 from Below.trans B4.out ⟨hZ5.os, hZ5.tape, hZ5.output, hZ5.size, fun i hi => hK5.2 i (by have := B4.out.size; omega) (by have := HGE.out; omega) (by simp [Value.ownBlock])⟩)
  have X5 := Aside0.mk (show (Kd.int .u8).R 5 w5 w.heap.size (fun q => some q = some bx) (.slice (some ⟨bx, 0, none⟩) X.length cx) X from Kd.R_keep (Kd.R_tight rfl X4.out) HK5.out (fun q hq => by injection hq with hq; rw [hq]; exact HGX.out.symm))
  have O5 := Aside0.mk (show (Kd.int .u8).R 5 w5 w3.heap.size (fun q => some q = some bo) (.slice (some ⟨bo, 0, none⟩) X.length co) X from Kd.R_keep OT.out HK5.out (fun q hq => by injection hq with hq; rw [hq]; exact HGO.out.1.symm))
  clear hG5 hP5 hK5 hO5 hZ5 B4 X4 G4 O4 OT Z4 HK5 HW1
  go_wp2
  go_loopw [55] (fun ix wr => ∃ (j : Nat) (Y : List Int), j ≤ T.length ∧ ix = .int .i64 j ∧ Aside0 (Y.length = X.length ∧ (Kd.int .u8).R 5 wr w3.heap.size (fun q => some q = some bo) (.slice (some ⟨bo, 0, none⟩) X.length co) Y) ∧ Aside0 (KeepBut w5 wr bo none) ∧ Aside0 (Below w.heap.size w wr)) (fun ix _ => T.length - (intOf ix).toNat)
  case atStart => exact ⟨0, X, Nat.zero_le _, rfl, ⟨rfl, O5.out⟩, ⟨KeepBut.refl _ _ _⟩, B5⟩
  case round =>
    obtain ⟨j, Y, hj, rfl, HY, HK, HB'⟩ := hrel
    by_cases hlt : j < T.length
    · obtain ⟨hY1, _, hYC⟩ := Kd.R_reads' HY.out.2
      obtain ⟨ad, had, hcell⟩ := Kd.at_int hYC (j : Int) (by omega) (by omega)
      injection had with had
      subst had
      have t0 : wr.cell? ⟨bo, j, none⟩ = some (.int .u8 (rd Y (j : Int))) := by
        have h := hcell
        simp [Addr.add] at h
        by_cases hj0 : j = 0
        · rw [if_pos hj0] at h
          rw [show (⟨bo, j, none⟩ : Addr) = ⟨bo, 0, none⟩ by rw [hj0]]
          exact h
        · rw [if_neg hj0] at h
          exact h
      have t1 : wr.frozen? ⟨bo, j, none⟩ = false := by obtain ⟨cs, hc⟩ := Kd.R_typed HY.out.2 bo rfl; exact blk_frozen hc j
      have hjX : (j : Int) < (X.length : Int) := by omega
      have hTb : T.length ≤ 402 := by have := HXL.out; have := HTX.out; omega
      have HWB := Aside0.mk (show w.heap.size ≤ bo by have := HBO.out; have := HGE.out; omega)
      clear hcell hYC hY1
      go_wp2_with fail
      go_roundw
      case rel => exact ⟨j + 1, Y.set j 0, by omega, by go_num, ⟨by rw [List.length_set]; exact HY.out.1, (Kd.R_putg HY.out.2 (j : Int) 0).1⟩, ⟨HK.out.set_ j _⟩, ⟨HB'.out.setCell HWB.out _⟩⟩
      case measure => simp [intOf]; omega
    · have X6 := Aside0.mk (Kd.R_keep X5.out HK.out (fun q hq => by injection hq with hq; rw [hq]; exact HGO.out.2))
      have G6 := Aside0.mk ((HK.out.2 g (blk_lt HG5.out) HGO.out.1 (by simp)).trans HG5.out)
      have P6 := Aside0.mk (Kd.R_mono (Kd.R_keep (Kd.R_tight rfl HP5.out) HK.out (fun q hq => by intro he; rw [he] at hq; exact HPO.out.1 hq.symm)) (fun _ _ => trivial) : (Kd.int .u8).R 5 wr 0 (fun _ => True) (.slice Ap T.length cp) T)
      have hcx := (Kd.R_reads' X6.out).2.1
      have hcx1 : T.length ≤ cx := by omega
      have hcx2 : (T.length : Int) ≤ (cx : Int) := by omega
      have hcx3 : ¬ cx = T.length := by omega
      clear X5 HG5 HP5 HK HY B5 O5
      go_wp2_with fail
      have hUl : U.length = X.length - T.length := by rw [HU.out, List.length_drop]
      have HV6 := Aside0.mk (show Kd.V (Kd.int .u8) 5 wr 0 (fun q => q ≠ g ∧ some q ≠ (Value.slice Ap T.length cp).ownBlock) (.slice (some ⟨bx, T.length, none⟩) U.length (cx - T.length)) U from by
        have hf := Kd.F_mid (Kd.R_F X6.out) (show T.length ≤ X.length by omega) (Nat.le_refl _) hcx
        rw [if_neg hcx3, List.take_length, ← HU.out] at hf
        have hA : (some (⟨bx, 0, none⟩ : Addr)).map (·.add (T.length * (Kd.int .u8).sz)) = some ⟨bx, T.length, none⟩ := by
          show some ((⟨bx, 0, none⟩ : Addr).add (T.length * 1)) = _
          simp [Addr.add]
          intro h
          rw [h]; rfl
        rw [hA] at hf
        refine Kd.V_mono (Kd.V_mk (by omega) hf) (fun q hq => ⟨fun h => ?_, fun h => ?_⟩)
        · injection hq with hq
          exact HGX.out (by rw [← h, hq])
        · rw [hq] at h
          exact HPO.out.2.1 h.symm)
      rw [← hUl]
      refine (write_any 300 0 10000 g (.slice Ap T.length cp) T U (some ⟨bx, T.length, none⟩) (cx - T.length) [] 0 [b] wr G6.out P6.out HV6.out ?hl ?hl2 ⟨by omega, by omega⟩ ⟨by omega, by omega⟩ HW2.out).mono ?_
      case hl => have := HXL.out; omega
      case hl2 => have := HXL.out; omega
      rintro e w7 ⟨vo7, vq, rfl, hS7, _, _, hK7, _, hZ7⟩
      obtain ⟨A7, c7, rfl, hl7, _⟩ := Kd.S_reads hS7
      have HBXr := Aside0.mk (show bx < wr.heap.size by obtain ⟨cs, hc⟩ := Kd.R_typed X6.out bx rfl; exact blk_lt hc)
      have S7 := Aside0.mk (show Kd.S (Kd.slice 5 (Kd.int .u8)) 22 w7 wr.heap.size (fun q => wr.heap.size ≤ q) (.slice A7 [b].length c7) [b] from Kd.S_mono (Kd.S_bound hS7) (fun _ hq => hq.2.1))
      have HL7 := Aside0.mk hl7
      have X7 := Aside0.mk (show (Kd.int .u8).R 5 w7 w.heap.size (fun q => some q = some bx) (.slice (some ⟨bx, 0, none⟩) X.length cx) X from Kd.R_step X6.out (fun q hq hlq => hK7.2 q hlq (by injection hq with hq; rw [hq]; exact HGX.out.symm) (by rw [hq]; exact fun h => HPO.out.2.1 h.symm)))
      have B7 := Aside0.mk (show Below w.heap.size w w7 from Below.trans HB'.out ⟨hZ7.os, hZ7.tape, hZ7.output, hZ7.size, fun i hi => hK7.2 i (by have := HB'.out.size; omega) (by have := HGE.out; omega) (fun h => by
        have h1 := HP5b.out i h.symm
        omega)⟩)
      have HBX7 := Aside0.mk (show bx < w7.heap.size by obtain ⟨cs, hc⟩ := Kd.R_typed X7.out bx rfl; exact blk_lt hc)
      have HD := Aside0.mk (show cobs_Decode.f 10000 X = some (b, 0) by have h := dec_tells (E b) 10000 (by have := HXL.out; rw [← HXE.out]; omega) (isB_E HX.out) (by have := HXL.out; rw [← HXE.out]; omega); rw [Dec_E, ← HXE.out] at h; exact h)
      clear hS7 hK7 hZ7 hl7 X6 G6 P6 HV6 HB'
      go_wp2_with fail
      refine (cobs_Decode.calls 10000 (fun q => some q = some bx) (some ⟨bx, 0, none⟩) cx X b 0 w7 (Kd.R_V X7.out) HD.out).mono ?_
      rintro e w8 ⟨vy, rfl, hoy, hb8⟩
      obtain ⟨Ay, cy, rfl⟩ := Kd.R_slice hoy
      have Y8 := Aside0.mk (show (Kd.int .u8).R 5 w8 w7.heap.size (fun q => w7.heap.size ≤ q) (.slice Ay b.length cy) b from Kd.R_mono (Kd.R_bound hoy) (fun _ hq => hq.2.1))
      have S8 := Aside0.mk (Kd.S_below S7.out hb8)
      have X8 := Aside0.mk (Kd.R_below X7.out hb8)
      have B8 := Aside0.mk (below_step B7.out hb8)
      clear hoy hb8 S7 X7 B7 HD
      go_wp2
      go_loopw [74] (fun ix wq => ∃ (j : Nat) (Y : List Int), j ≤ X.length ∧ ix = .int .i64 j ∧ Aside0 (Y.length = X.length ∧ (Kd.int .u8).R 5 wq w.heap.size (fun q => some q = some bx) (.slice (some ⟨bx, 0, none⟩) X.length cx) Y) ∧ Aside0 (KeepBut w8 wq bx none) ∧ Aside0 (Below w.heap.size w wq)) (fun ix _ => X.length - (intOf ix).toNat)
      case atStart => exact ⟨0, X, Nat.zero_le _, rfl, ⟨rfl, X8.out⟩, ⟨KeepBut.refl _ _ _⟩, B8⟩
      case round =>
        obtain ⟨j, Y, hj, rfl, HY, HK, HB9⟩ := hrel
        by_cases hlt : j < X.length
        · obtain ⟨hY1, _, hYC⟩ := Kd.R_reads' HY.out.2
          obtain ⟨ad, had, hcell⟩ := Kd.at_int hYC (j : Int) (by omega) (by omega)
          injection had with had
          subst had
          have t0 : wr.cell? ⟨bx, j, none⟩ = some (.int .u8 (rd Y (j : Int))) := by
            have h := hcell
            simp [Addr.add] at h
            by_cases hj0 : j = 0
            · rw [if_pos hj0] at h
              rw [show (⟨bx, j, none⟩ : Addr) = ⟨bx, 0, none⟩ by rw [hj0]]
              exact h
            · rw [if_neg hj0] at h
              exact h
          have t1 : wr.frozen? ⟨bx, j, none⟩ = false := by obtain ⟨cs, hc⟩ := Kd.R_typed HY.out.2 bx rfl; exact blk_frozen hc j
          have hTb : X.length ≤ 402 := HXL.out.2
          have HWB := Aside0.mk (show w.heap.size ≤ bx from HBO.out.2)
          clear hcell hYC hY1
          go_wp2_with fail
          go_roundw
          case rel => exact ⟨j + 1, Y.set j 7, by omega, by go_num, ⟨by rw [List.length_set]; exact HY.out.1, (Kd.R_putg HY.out.2 (j : Int) 7).1⟩, ⟨HK.out.set_ j _⟩, ⟨HB9.out.setCell HWB.out _⟩⟩
          case measure => simp [intOf]; omega
        · have Y9 := Aside0.mk (Kd.R_keep Y8.out HK.out (fun q hq => by have := HBX7.out; omega))
          have S9 := Aside0.mk (Kd.S_keep S8.out HK.out (fun q hq => by have := HBXr.out; omega))
          clear Y8 S8 X8 B8 HY HK
          go_wp2_with fail
          refine (trickleref03_Same.calls Ay cy b Ab cb b true wr (Kd.R_reads' Y9.out).2.2 (Kd.R_reads' Y9.out).2.1 (Kd.C_below HC.out HB9.out) HCP.out (same_refl b)).mono ?_
          rintro e w9 ⟨rfl, ⟨nd, rfl⟩⟩
          have B10 := Aside0.mk (show Below w.heap.size w (wr.drewN nd) from pw_below_drewN HB9.out nd)
          have S10 := Aside0.mk (Kd.S_drewN S9.out nd)
          generalize wr.drewN nd = wz at *
          clear S9 Y9 HB9
          go_wp2_with fail
          have B11 := Aside0.mk (below_alloc B10.out (.cells #[.slice Ab b.length cb] 22))
          refine (trickleref03_SamePackets.calls 1001 A7 c7 [b] (some ⟨wz.heap.size, 0, none⟩) 1 [b] true _ (Kd.C_alloc (Kd.S_reads' S10.out).2.2 _) HL7.out (C_one _ _ Ab cb b (blk_new wz _) HCP.out (Kd.C_below HC.out B11.out)) (by simp) (sp_refl [b] (by simp))).mono ?_
          rintro e w11 ⟨rfl, ⟨nd2, rfl⟩⟩
          have B12 := Aside0.mk (show Below w.heap.size w (World.drewN _ nd2) from pw_below_drewN B11.out nd2)
          go_wp2
          go_ret
          exact ⟨rfl, B12.out⟩
end Go.Proofs.Ytnlpckkaddpieaa.Nal
