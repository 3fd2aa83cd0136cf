/-
  Splitter.Write: the plain function that it computes, and the walk.
-/
import Derived.Test.YtnlpckkaddpieaaPr4
import Derived.Outline
set_option linter.unusedVariables false
namespace Go.Proofs.Ytnlpckkaddpieaa.Wrt
open Go.RowKit Go.ChangeShapes Go.WideShapes Go.Proofs.Ytnlpckkaddpieaa.Pr Go.Proofs.YtnlpckkaddpieaaW.PrintWords Go.Proofs.YtnlpckkaddpieaaW.PrintLast Go.Proofs.YtnlpckkaddpieaaW.PrintMore
/-- What Write makes of the bytes, the pending ones, the count and the packets so far. -/
def wrF (most : Int) (kk : Nat) : List Int → List Int → Int → List (List Int) → Option (List Int × Int × List (List Int))
  | [], pd, sk, out => some (pd, sk, out)
  | c :: l, pd, sk, out =>
    if c ≠ 0 then wrF most kk l (pd ++ [c]) sk out
    else if pd = [] then wrF most kk l [] sk out
    else match cobs_Decode.f kk (pd ++ [0]) with
      | none => none
      | some (p, er) => if er = 0 ∧ (p.length : Int) ≤ most then wrF most kk l [] sk (out ++ [p]) else wrF most kk l [] (sk + 1) out
theorem keep3 {w w1 w2 : World} {g : Nat} {row row1 : Option Nat} (h : KeepBut w w1 g row) (k : KeepBut w1 w2 g row1) (hr : row1 = row ∨ row1 = none ∨ ∃ b, row1 = some b ∧ w.heap.size ≤ b) : KeepBut w w2 g row := by
  rcases hr with hr | hr | hr
  · exact h.trans k (.inl hr)
  · subst hr
    exact h.trans (row1 := row) ⟨k.1, fun i hi h1 _ => k.2 i hi h1 (by simp)⟩ (.inl rfl)
  · exact h.trans k (.inr hr)
theorem keep_set {w w1 : World} {g i : Nat} {row : Option Nat} {u : Value} (h : KeepBut w w1 g row) : KeepBut w (w1.setCell ⟨g, i, none⟩ u) g row := h.set_ i u
def WPost (most sk : Int) (g : Nat) (v0 : Value) (pd : List Int) (out : List (List Int)) (w : World) (e : Ending) (w' : World) : Prop :=
  ∃ v vp, e = .returned v ∧ Kd.S (Kd.slice 5 (Kd.int .u8)) 22 w' w.heap.size (fun k => some k ≠ vp.ownBlock) v out ∧ w'.heap[g]? = some (.cells #[.int .i64 most, vp, .int .i64 sk] 45 (0, 0)) ∧
    (Kd.int .u8).R 5 w' 0 (fun _ => True) vp pd ∧ KeepBut w w' g v0.ownBlock ∧ (vp.ownBlock = v0.ownBlock ∨ vp.ownBlock = none ∨ ∃ b, vp.ownBlock = some b ∧ w.heap.size ≤ b) ∧ Below 0 w w'
theorem ty5 : ∀ q, q ∈ 5 :: (Kd.int .u8).E → q ≠ 45 := fun q hq => by cases hq with | head => decide | tail _ h => cases h
theorem ty22 : ∀ q, q ∈ 22 :: (Kd.slice 5 (Kd.int .u8)).E → q ≠ 45 := fun q hq => by
  cases hq with
  | head => decide
  | tail _ h =>
    cases h with
    | head => decide
    | tail _ h => cases h
set_option maxHeartbeats 8000000 in
set_option maxRecDepth 100000 in
theorem write_any (most sk0 : Int) (kk g : Nat) (v0 : Value) (pd l : List Int) (A : Option Addr) (c : Nat) (r1 : List Int) (r2 : Int) (r3 : List (List Int)) (w : World)
    (hG : w.heap[g]? = some (.cells #[.int .i64 most, v0, .int .i64 sk0] 45 (0, 0))) (hP : (Kd.int .u8).R 5 w 0 (fun _ => True) v0 pd)
    (hV : Kd.V (Kd.int .u8) 5 w 0 (fun k => k ≠ g ∧ some k ≠ v0.ownBlock) (.slice A l.length c) l) (hl : l.length ≤ 100000) (hpl : pd.length ≤ 100000) (hs : 0 ≤ sk0 ∧ sk0 ≤ 100000) (hm : 0 ≤ most ∧ most ≤ 65536)
    (h : wrF most kk l pd sk0 [] = some (r1, r2, r3)) :
    Calls Try.prog 19 #[.pointer (some ⟨g, 0, none⟩), .slice A l.length c] w (WPost most r2 g v0 r1 r3 w) := by
  have HV := Aside0.mk hV
  have HG := Aside0.mk hG
  have HP := Aside0.mk hP
  have HH := Aside0.mk h
  have HL := Aside0.mk (show l.length ≤ 100000 ∧ pd.length ≤ 100000 ∧ 0 ≤ sk0 ∧ sk0 ≤ 100000 from ⟨hl, hpl, hs.1, hs.2⟩)
  have HK := Aside0.mk (KeepBut.refl w g v0.ownBlock)
  have HS := Aside0.mk (Kd.S_nil (Kd.slice 5 (Kd.int .u8)) 22 w w.heap.size (fun k => some k ≠ v0.ownBlock))
  clear hG hP hV h hl hpl hs
  have hu45 := Try.underlying45
  have hu22 := Try.underlying22
  go_enter Try.func19, Try.ntmps19
  go_wp2
  go_loopw [5, 13] (fun vo ix wr => ∃ (k : Nat) (pk : List Int) (sk : Int) (ok : List (List Int)) (vk : Value), k ≤ l.length ∧ ix = .int .i64 k ∧ Aside0 (wrF most kk (l.drop k) pk sk ok = some (r1, r2, r3)) ∧ Aside0 (pk.length ≤ 100000 + k ∧ ok.length ≤ k ∧ 0 ≤ sk ∧ sk ≤ 100000 + k) ∧ Aside0 (wr.heap[g]? = some (.cells #[.int .i64 most, vk, .int .i64 sk] 45 (0, 0))) ∧ Aside0 ((Kd.int .u8).R 5 wr 0 (fun _ => True) vk pk) ∧ Aside0 (Kd.S (Kd.slice 5 (Kd.int .u8)) 22 wr w.heap.size (fun q => some q ≠ vk.ownBlock) vo ok) ∧ Aside0 (KeepBut w wr g v0.ownBlock) ∧ Aside0 (vk.ownBlock = v0.ownBlock ∨ vk.ownBlock = none ∨ ∃ b, vk.ownBlock = some b ∧ w.heap.size ≤ b) ∧ Aside0 (Below 0 w wr)) (fun _ ix _ => l.length - (intOf ix).toNat)
  case atStart => exact ⟨0, pd, sk0, [], v0, Nat.zero_le _, rfl, HH, ⟨by have := HL.out; simp; omega⟩, HG, HP, HS, HK, ⟨.inl rfl⟩, ⟨Below.refl _ _⟩⟩
  case round =>
    obtain ⟨k, pk, sk, ok, vk, hk, rfl, HW, HN, HG', HP', HS', HK', HO', HZ'⟩ := hrel
    clear HH HG HP HS HK
    have hlen : l.length ≤ 100000 := HL.out.1
    by_cases hlt : k < l.length
    · obtain ⟨_, hlc, hC⟩ := Kd.V_reads' (Kd.V_step HV.out (fun q hq hlq => HK'.out.2 q hlq hq.1 hq.2))
      obtain ⟨ad, had, h0⟩ := Kd.at_int hC (k : Int) (by omega) (by omega)
      have hrd : rd l (k : Int) = l[k] := by
        unfold rd
        rw [List.getD_eq_getElem?_getD, Int.toNat_natCast, List.getElem?_eq_getElem hlt]
        rfl
      rw [hrd, Int.toNat_natCast] at h0
      have hw := HW.out
      rw [List.drop_eq_getElem_cons hlt] at hw
      clear hrd hC HW
      generalize l[k] = b at *
      subst had
      obtain ⟨Ak, ck, rfl⟩ := Kd.R_slice HP'.out
      have HGN := Aside0.mk (Kd.R_ne HP'.out HG'.out (by decide))
      have x1 : wr.cell? ⟨g, 1, none⟩ = some (.slice Ak pk.length ck) := (blk_cell HG'.out 1).trans rfl
      obtain ⟨pn, hpn⟩ : ∃ pn, pn = pk ++ [b] := ⟨_, rfl⟩
      have HPN := Aside0.mk hpn
      clear hpn
      simp only [wrF] at hw
      by_cases hb : b = 0
      · subst hb
        rw [if_neg (by simp)] at hw
        have HWW := Aside0.mk hw
        clear hw
        by_cases hpk : pk = []
        · have hwq := HWW.out
          rw [if_pos hpk] at hwq
          have HW2 := Aside0.mk hwq
          have hn1 : pn.length = 1 := by have h1 := HPN.out; rw [h1, hpk]; rfl
          have d2 : ((pn.length : Int) == 1) = true := beq_iff_eq.mpr (by omega)
          have d3 : (pn.length == 1) = true := beq_iff_eq.mpr hn1
          have HQ := Aside0.mk hn1
          clear hwq HWW hn1 hpk
          go_wp2_with ((with_reducible refine gate_builtin (b := .append) (xs := #[.tmp 21, .tmp 23]) rfl ?_); at_builtin; refine Kd.R_append (Kd.int .u8) (w0 := wr) 0 rfl (.tmp 21) (.tmp 23) 22 5 (.int .u8 0) 1 rfl Try.underlying22 info5 rfl (by decide) (by omega) (.slice Ak pk.length ck) pk 0 [.int .u8 0] (fun _ => True) (fun _ => False) rfl rfl ?aP (fun _ hk => hk.elim) ?aF ?aO ?aB ?aS ?aL ?_; (case aP => exact rfl); (case aF => exact (fun _ _ => trivial)); (case aO => exact HP'.out); (case aB => exact Below.refl _ _); (case aS => exact Nat.zero_le _); (case aL => have := HN.out.1; omega); intro v1 w1 ho hb1 hg1 hat1; rw [← HPN.out] at ho; obtain ⟨A1, c1, e1⟩ := Kd.R_slice ho; subst e1; have G1 := blk_grown HG'.out hg1 HGN.out; have y0 := (blk_cell G1 0).trans (show _ = some (Value.int .i64 most) from rfl); have y1 := (blk_cell G1 1).trans (show _ = some (Value.slice Ak pk.length ck) from rfl); have y2 := (blk_cell G1 2).trans (show _ = some (Value.int .i64 sk) from rfl); have f1 := blk_frozen G1 1; have f2 := blk_frozen G1 2; have HO1 := Aside0.mk ho; have HG1 := Aside0.mk G1; have HGR := Aside0.mk hg1; have HAT := Aside0.mk hat1; have HZ1 := Aside0.mk (Below.trans HZ'.out hb1); clear ho hb1 hg1 hat1 G1)
          go_roundw
          case rel => exact ⟨k + 1, [], sk, ok, .slice none 0 0, by omega, by go_num, HW2, ⟨by have h1 := HN.out; simp; omega⟩, ⟨blk_put (blk_put HG1.out 1 _ rfl) 1 _ rfl⟩, ⟨Kd.R_nil _ _ _ _ _⟩, ⟨Kd.S_set (Kd.S_set (Kd.S_mono (Kd.S_after (ok := fun _ => True) (Kd.S_mono HS'.out (fun q hq => ⟨trivial, hq⟩)) HGR.out HAT.out) (fun q hq => by simp [Value.ownBlock])) HG1.out ty22 1 _) (blk_put HG1.out 1 _ rfl) ty22 1 _⟩, ⟨keep_set (keep_set (keep3 HK'.out (KeepBut.of_grown HGR.out g) HO'.out))⟩, ⟨.inr (.inl rfl)⟩, ⟨(HZ1.out.setCell (Nat.zero_le _) _).setCell (Nat.zero_le _) _⟩⟩
          case measure => simp [intOf]; omega
        · have hn1 : ¬ pn.length = 1 := by
            have h1 := HPN.out
            rw [h1]
            cases pk with
            | nil => exact absurd rfl hpk
            | cons a t => simp
          have d2 : ((pn.length : Int) == 1) = false := beq_eq_false_iff_ne.mpr (by omega)
          have d3 : (pn.length == 1) = false := beq_eq_false_iff_ne.mpr hn1
          go_wp2_with ((with_reducible refine gate_builtin (b := .append) (xs := #[.tmp 21, .tmp 23]) rfl ?_); at_builtin; refine Kd.R_append (Kd.int .u8) (w0 := wr) 0 rfl (.tmp 21) (.tmp 23) 22 5 (.int .u8 0) 1 rfl Try.underlying22 info5 rfl (by decide) (by omega) (.slice Ak pk.length ck) pk 0 [.int .u8 0] (fun _ => True) (fun _ => False) rfl rfl ?aP (fun _ hk => hk.elim) ?aF ?aO ?aB ?aS ?aL ?_; (case aP => exact rfl); (case aF => exact (fun _ _ => trivial)); (case aO => exact HP'.out); (case aB => exact Below.refl _ _); (case aS => exact Nat.zero_le _); (case aL => have := HN.out.1; omega); intro v1 w1 ho hb1 hg1 hat1; rw [← HPN.out] at ho; obtain ⟨A1, c1, e1⟩ := Kd.R_slice ho; subst e1; have G1 := blk_grown HG'.out hg1 HGN.out; have y0 := (blk_cell G1 0).trans (show _ = some (Value.int .i64 most) from rfl); have y1 := (blk_cell G1 1).trans (show _ = some (Value.slice Ak pk.length ck) from rfl); have y2 := (blk_cell G1 2).trans (show _ = some (Value.int .i64 sk) from rfl); have f1 := blk_frozen G1 1; have f2 := blk_frozen G1 2; have HO1 := Aside0.mk ho; have HG1 := Aside0.mk G1; have HGR := Aside0.mk hg1; have HAT := Aside0.mk hat1; have HZ1 := Aside0.mk (Below.trans HZ'.out hb1); clear ho hb1 hg1 hat1 G1)
          have G3 := Aside0.mk (show ((w1.setCell ⟨g, 1, none⟩ (.slice A1 pn.length c1)).setCell ⟨g, 1, none⟩ (.slice none 0 0)).heap[g]? = some (.cells #[.int .i64 most, .slice none 0 0, .int .i64 sk] 45 (0, 0)) from blk_put (blk_put HG1.out 1 _ rfl) 1 _ rfl)
          have R3 := Aside0.mk (show (Kd.int .u8).R 5 ((w1.setCell ⟨g, 1, none⟩ (.slice A1 pn.length c1)).setCell ⟨g, 1, none⟩ (.slice none 0 0)) 0 (fun _ => True) (.slice A1 pn.length c1) pn from Kd.R_set (Kd.R_set HO1.out HG1.out ty5 1 _) (blk_put HG1.out 1 _ rfl) ty5 1 _)
          have S3 := Aside0.mk (show Kd.S (Kd.slice 5 (Kd.int .u8)) 22 ((w1.setCell ⟨g, 1, none⟩ (.slice A1 pn.length c1)).setCell ⟨g, 1, none⟩ (.slice none 0 0)) w.heap.size (fun _ => True) u5 ok from Kd.S_set (Kd.S_set (Kd.S_mono (Kd.S_after (ok := fun _ => True) (Kd.S_mono HS'.out (fun q hq => ⟨trivial, hq⟩)) HGR.out HAT.out) (fun q hq => trivial)) HG1.out ty22 1 _) (blk_put HG1.out 1 _ rfl) ty22 1 _)
          have K3 := Aside0.mk (show KeepBut w ((w1.setCell ⟨g, 1, none⟩ (.slice A1 pn.length c1)).setCell ⟨g, 1, none⟩ (.slice none 0 0)) g v0.ownBlock from keep_set (keep_set (keep3 HK'.out (KeepBut.of_grown HGR.out g) HO'.out)))
          have Z3 := Aside0.mk (show Below 0 w ((w1.setCell ⟨g, 1, none⟩ (.slice A1 pn.length c1)).setCell ⟨g, 1, none⟩ (.slice none 0 0)) from (HZ1.out.setCell (Nat.zero_le _) _).setCell (Nat.zero_le _) _)
          obtain ⟨w3, hw3⟩ : ∃ w3, ((w1.setCell ⟨g, 1, none⟩ (.slice A1 pn.length c1)).setCell ⟨g, 1, none⟩ (.slice none 0 0)) = w3 := ⟨_, rfl⟩
          rw [hw3] at G3 R3 S3 K3 Z3 ⊢
          clear hw3 HO1 HG1 HGR HAT y0 y1 y2 f1 f2 HS' HK' HG' HP' HO' HGN x1
          have hwq := HWW.out
          rw [if_neg hpk, ← HPN.out] at hwq
          clear HWW
          cases hdec : cobs_Decode.f kk pn with
          | none => rw [hdec] at hwq; cases hwq
          | some pe =>
            obtain ⟨p, er⟩ := pe
            rw [hdec] at hwq
            simp only at hwq
            have HWW := Aside0.mk hwq
            have HD := Aside0.mk hdec
            clear hwq hdec
            refine (cobs_Decode.calls kk (fun q => q < w3.heap.size) A1 c1 pn p er _ (Kd.V_mk (Kd.R_reads' R3.out).2.1 (Kd.C_F (Kd.heap_int .u8) (Kd.R_reads' R3.out).2.2)) HD.out).mono ?_
            rintro e w4 ⟨vp, rfl, hop, hb4⟩
            obtain ⟨A2, c2, rfl⟩ := Kd.R_slice hop
            have G4 := Aside0.mk (blk_below G3.out hb4)
            have S4 := Aside0.mk (Kd.S_elder' S3.out (Kd.R_base hop) hb4)
            have K4 := Aside0.mk (keep3 K3.out (KeepBut.of_below hb4 g none) (.inr (.inl rfl)))
            have Z4 := Aside0.mk (Below.trans Z3.out (hb4.mono (Nat.zero_le _)))
            have P4 := Aside0.mk (Kd.R_lower hop K3.out.1)
            have HSZ := Aside0.mk (K4.out.1)
            clear hop hb4 G3 R3 S3 K3 HD
            have z0 : w4.cell? ⟨g, 0, none⟩ = some (.int .i64 most) := (blk_cell G4.out 0).trans rfl
            have z2 : w4.cell? ⟨g, 2, none⟩ = some (.int .i64 sk) := (blk_cell G4.out 2).trans rfl
            have f2 := blk_frozen G4.out 2
            obtain ⟨_, _, hs0, hs1⟩ := HN.out
            have hs2 : sk ≤ 200000 := by omega
            have BAD : ∀ (W5 : World), W5 = w4.setCell ⟨g, 2, none⟩ (.int .i64 (sk + 1)) → W5.heap[g]? = some (.cells #[.int .i64 most, .slice none 0 0, .int .i64 (sk + 1)] 45 (0, 0)) ∧ Kd.S (Kd.slice 5 (Kd.int .u8)) 22 W5 w.heap.size (fun q => some q ≠ (Value.slice none 0 0).ownBlock) u5 ok ∧ KeepBut w W5 g v0.ownBlock := fun W5 h5 => by
              rw [h5]
              exact ⟨blk_put G4.out 2 _ rfl, Kd.S_set (Kd.S_mono S4.out (fun q hq => by simp [Value.ownBlock])) G4.out ty22 2 _, keep_set K4.out⟩
            have HBAD := Aside0.mk BAD
            clear BAD
            have HN2 := Aside0.mk (show ([] : List Int).length ≤ 100000 + (k + 1) ∧ ok.length ≤ k + 1 ∧ 0 ≤ sk + 1 ∧ sk + 1 ≤ 100000 + ((k + 1 : Nat) : Int) by have h1 := HN.out; simp; omega)
            have HN3 := Aside0.mk (show ([] : List Int).length ≤ 100000 + (k + 1) ∧ (ok ++ [p]).length ≤ k + 1 ∧ 0 ≤ sk ∧ sk ≤ 100000 + ((k + 1 : Nat) : Int) by have h1 := HN.out; simp; omega)
            by_cases he : er = 0
            · subst he
              by_cases hpl : (p.length : Int) ≤ most
              · have hwr := HWW.out
                rw [if_pos ⟨rfl, hpl⟩] at hwr
                have HW2 := Aside0.mk hwr
                clear hwr HWW
                have e1 : decide (most < (p.length : Int)) = false := decide_eq_false (by omega)
                clear hpl
                go_wp2_with ((with_reducible refine gate_builtin (b := .append) (xs := #[.tmp 62, .tmp 64]) rfl ?_); (try (refine gate_guard (by rfl) ?_; dsimp only)); at_builtin; refine Kd.S_append (Kd.slice 5 (Kd.int .u8)) (w0 := w4) w.heap.size rfl (.tmp 62) (.tmp 64) 30 22 (.slice none 0 0) 24 rfl Try.underlying30 info22 rfl (by decide) (by omega) u5 ok p [.slice A2 p.length c2] (fun _ => True) (fun k_ => some k_ = (Value.slice A2 p.length c2).ownBlock) rfl rfl ?aP ?aK ?aF ?aO ?aB ?aS ?aL ?_; (case aP => exact Kd.M_row (Kd.R_mono (Kd.R_tight rfl P4.out) (fun _ h_ => h_))); (case aK => exact (fun k_ hk_ => ((Kd.R_mono (ok' := fun k_ => True ∧ some k_ ≠ (u5 : Value).ownBlock) (Kd.R_apart' P4.out (Kd.S_typed S4.out) (by decide)) (fun k_ hk => ⟨trivial, hk.2⟩))).1 k_ hk_.symm)); (case aF => exact (fun _ _ => trivial)); (case aO => exact Kd.S_mono S4.out (fun k_ hk => ⟨trivial, fun e_ => hk.2 e_⟩)); (case aB => exact Below.refl _ _); (case aS => exact HSZ.out); (case aL => have := HN.out.2.1; omega); intro v5 w5 ho5 hb5 hg5 hat5; have S5 := Aside0.mk ho5; have G5 := Aside0.mk hg5; have Z5 := Aside0.mk (Below.trans Z4.out (hb5.mono (Nat.zero_le _))); clear ho5 hb5 hg5 hat5)
                have hge : some g ≠ (u5 : Value).ownBlock := fun e => by
                  obtain ⟨cs, hc⟩ := Kd.S_typed S4.out g e.symm
                  rw [G4.out] at hc
                  cases hc
                have hob : (u5 : Value).ownBlock = v0.ownBlock ∨ (u5 : Value).ownBlock = none ∨ ∃ b, (u5 : Value).ownBlock = some b ∧ w.heap.size ≤ b := by
                  cases hu : (u5 : Value).ownBlock with
                  | none => exact .inr (.inl rfl)
                  | some b => exact .inr (.inr ⟨b, rfl, Kd.R_base (Kd.S_R S4.out) b hu⟩)
                go_roundw
                case rel => exact ⟨k + 1, [], sk, ok ++ [p], .slice none 0 0, by omega, by go_num, HW2, HN3, ⟨blk_grown G4.out G5.out hge⟩, ⟨Kd.R_nil _ _ _ _ _⟩, ⟨Kd.S_mono S5.out (fun q hq => by simp [Value.ownBlock])⟩, ⟨keep3 K4.out (KeepBut.of_grown G5.out g) hob⟩, ⟨.inr (.inl rfl)⟩, ⟨Z5.out⟩⟩
                case measure => simp [intOf]; omega
              · have hwr := HWW.out
                rw [if_neg (fun h => hpl h.2)] at hwr
                have HW2 := Aside0.mk hwr
                clear hwr HWW
                have e1 : decide (most < (p.length : Int)) = true := decide_eq_true (by omega)
                clear hpl
                go_wp2_with fail
                go_roundw
                case rel => exact ⟨k + 1, [], sk + 1, ok, .slice none 0 0, by omega, by go_num, HW2, HN2, ⟨(HBAD.out _ rfl).1⟩, ⟨Kd.R_nil _ _ _ _ _⟩, ⟨(HBAD.out _ rfl).2.1⟩, ⟨(HBAD.out _ rfl).2.2⟩, ⟨.inr (.inl rfl)⟩, ⟨Z4.out.setCell (Nat.zero_le _) _⟩⟩
                case measure => simp [intOf]; omega
            · have hwr := HWW.out
              rw [if_neg (fun h => he h.1)] at hwr
              have HW2 := Aside0.mk hwr
              clear hwr HWW
              have e1 : (er != 0) = true := bne_iff_ne.mpr he
              clear he
              go_wp2_with fail
              go_roundw
              case rel => exact ⟨k + 1, [], sk + 1, ok, .slice none 0 0, by omega, by go_num, HW2, HN2, ⟨(HBAD.out _ rfl).1⟩, ⟨Kd.R_nil _ _ _ _ _⟩, ⟨(HBAD.out _ rfl).2.1⟩, ⟨(HBAD.out _ rfl).2.2⟩, ⟨.inr (.inl rfl)⟩, ⟨Z4.out.setCell (Nat.zero_le _) _⟩⟩
              case measure => simp [intOf]; omega
      · have d1 : (b != 0) = true := bne_iff_ne.mpr hb
        rw [if_pos hb, ← HPN.out] at hw
        have HWW := Aside0.mk hw
        clear hw
        go_wp2_with ((with_reducible refine gate_builtin (b := .append) (xs := #[.tmp 21, .tmp 23]) rfl ?_); at_builtin; refine Kd.R_append (Kd.int .u8) (w0 := wr) 0 rfl (.tmp 21) (.tmp 23) 22 5 (.int .u8 0) 1 rfl Try.underlying22 info5 rfl (by decide) (by omega) (.slice Ak pk.length ck) pk b [.int .u8 b] (fun _ => True) (fun _ => False) rfl rfl ?aP (fun _ hk => hk.elim) ?aF ?aO ?aB ?aS ?aL ?_; (case aP => exact rfl); (case aF => exact (fun _ _ => trivial)); (case aO => exact HP'.out); (case aB => exact Below.refl _ _); (case aS => exact Nat.zero_le _); (case aL => have := HN.out.1; omega); intro v1 w1 ho hb1 hg1 hat1; rw [← HPN.out] at ho; obtain ⟨A1, c1, e1⟩ := Kd.R_slice ho; subst e1; have G1 := blk_grown HG'.out hg1 HGN.out; have y0 := (blk_cell G1 0).trans (show _ = some (Value.int .i64 most) from rfl); have y1 := (blk_cell G1 1).trans (show _ = some (Value.slice Ak pk.length ck) from rfl); have y2 := (blk_cell G1 2).trans (show _ = some (Value.int .i64 sk) from rfl); have f1 := blk_frozen G1 1; have f2 := blk_frozen G1 2; have HO1 := Aside0.mk ho; have HG1 := Aside0.mk G1; have HGR := Aside0.mk hg1; have HAT := Aside0.mk hat1; have HZ1 := Aside0.mk (Below.trans HZ'.out hb1); clear ho hb1 hg1 hat1 G1)
        have HO2 := Aside0.mk (show (Value.slice A1 pn.length c1).ownBlock = v0.ownBlock ∨ (Value.slice A1 pn.length c1).ownBlock = none ∨ ∃ b, (Value.slice A1 pn.length c1).ownBlock = some b ∧ w.heap.size ≤ b by
          rcases HAT.out with e | ⟨b, e, hle⟩
          · rw [e]; exact HO'.out
          · exact .inr (.inr ⟨b, e, Nat.le_trans HK'.out.1 hle⟩))
        have HN2 := Aside0.mk (show pn.length ≤ 100000 + (k + 1) ∧ ok.length ≤ k + 1 ∧ 0 ≤ sk ∧ sk ≤ 100000 + ((k + 1 : Nat) : Int) by have h1 := HN.out; have h2 := congrArg List.length HPN.out; simp at h2; omega)
        go_roundw
        case rel => exact ⟨k + 1, pn, sk, ok, _, by omega, by go_num, HWW, HN2, ⟨blk_put HG1.out 1 _ rfl⟩, ⟨Kd.R_set HO1.out HG1.out ty5 1 _⟩, ⟨Kd.S_set (Kd.S_mono (Kd.S_after (ok := fun _ => True) (Kd.S_mono HS'.out (fun q hq => ⟨trivial, hq⟩)) HGR.out HAT.out) (fun q hq => hq.2)) HG1.out ty22 1 _⟩, ⟨keep_set (keep3 HK'.out (KeepBut.of_grown HGR.out g) HO'.out)⟩, HO2, ⟨HZ1.out.setCell (Nat.zero_le _) _⟩⟩
        case measure => simp [intOf]; omega
    · have hw := HW.out
      rw [List.drop_eq_nil_of_le (by omega)] at hw
      simp only [wrF, Option.some.injEq, Prod.mk.injEq] at hw
      obtain ⟨rfl, rfl, rfl⟩ := hw
      clear HW
      go_wp2
      go_ret
      exact ⟨_, vk, rfl, HS'.out, HG'.out, HP'.out, HK'.out, HO'.out, HZ'.out⟩
end Go.Proofs.Ytnlpckkaddpieaa.Wrt
