-- Written by a program of this session for this claim.
import Derived.Test.YtnlpckkaddpieaaPr0
import Derived.Test.YtnlpckkaddpieaaPr1
namespace Go.Proofs.Ytnlpckkaddpieaa.Pr
open Go.RowKit Go.Proofs.YtnlpckkaddpieaaW.PrintWords Go.Proofs.YtnlpckkaddpieaaW.PrintLast Go.Proofs.YtnlpckkaddpieaaW.PrintMore
attribute [local go_sem] max2_int min2_int max_two min_two max_three min_three max_four min_four   -- for this text's walks alone
set_option linter.unusedVariables false
set_option linter.unusedSimpArgs false

/-! ### cobs_Decode: function 15 -/
mutual
def cobs_Decode.j0 : Nat → List Int → Bool → Option (List Int × Int)
  | 0, _, _ => none
  | k + 1, x0, x18 => if x18 = true then (some (([] : List Int), 3)) else (if 0 ≤ (wrap64 ((x0.length : Int) - 1)) then (if (wrap64 ((x0.length : Int) - 1)) ≤ (x0.length : Int) then (cobs_Decode.l0 k x0 ([] : List Int) (x0.take ((wrap64 ((x0.length : Int) - 1)) : Int).toNat)) else (none)) else (none))
def cobs_Decode.l0 : Nat → List Int → List Int → List Int → Option (List Int × Int)
  | 0, _, _, _ => none
  | k + 1, x0, x4, x5 => if (x5.length : Int) > 0 then (if 0 < (x5.length : Int) then (if (wrap64 ((wrap64 (rd x5 0)) - 1)) < 0 then (cobs_Decode.j2 k x0 x4 x5 (wrap64 ((wrap64 (rd x5 0)) - 1)) true) else (cobs_Decode.j2 k x0 x4 x5 (wrap64 ((wrap64 (rd x5 0)) - 1)) (decide ((wrap64 ((wrap64 (rd x5 0)) - 1)) ≥ (x5.length : Int))))) else (none)) else ((cobs_Encode.f k x4).bind fun t154 => ((bytes_Equal.f t154 x0).bind fun t157 => (if t157 = true then (some (x4, 0)) else (some (([] : List Int), 2)))))
def cobs_Decode.j2 : Nat → List Int → List Int → List Int → Int → Bool → Option (List Int × Int)
  | 0, _, _, _, _, _ => none
  | k + 1, x0, x4, x5, x6, x39 => if x39 = true then (some (([] : List Int), 2)) else (if 1 ≤ (wrap64 (1 + x6)) then (if (wrap64 (1 + x6)) ≤ (x5.length : Int) then ((some ((x5.take ((wrap64 (1 + x6)) : Int).toNat).drop 1 : List Int)).bind fun y138 => (if x4.length + y138.length < 140737488355328 then ((some (x4 ++ y138 : List Int)).bind fun y143 => (if 0 ≤ (wrap64 (1 + x6)) then ((some (x5.drop ((wrap64 (1 + x6)) : Int).toNat : List Int)).bind fun y146 => (if (y146.length : Int) > 0 then (if x6 < 254 then (if y143.length < 140737488355328 then (cobs_Decode.l0 k x0 (y143 ++ [0]) y146) else (none)) else (cobs_Decode.l0 k x0 y143 y146)) else (cobs_Decode.l0 k x0 y143 y146))) else (none))) else (none))) else (none)) else (none))
end
def cobs_Decode.f (k : Nat) (l0 : List Int) : Option (List Int × Int) := if (l0.length : Int) = 0 then (cobs_Decode.j0 k l0 true) else (if 0 ≤ (wrap64 ((l0.length : Int) - 1)) then (if (wrap64 ((l0.length : Int) - 1)) < (l0.length : Int) then (cobs_Decode.j0 k l0 ((rd l0 (wrap64 ((l0.length : Int) - 1))) != 0)) else (none)) else (none))
theorem cobs_Decode.mono_l : ∀ k, (∀ y0 y1, LeO (cobs_Decode.j0 k y0 y1) (cobs_Decode.j0 (k + 1) y0 y1)) ∧ (∀ y0 y1 y2, LeO (cobs_Decode.l0 k y0 y1 y2) (cobs_Decode.l0 (k + 1) y0 y1 y2)) ∧ (∀ y0 y1 y2 y3 y4, LeO (cobs_Decode.j2 k y0 y1 y2 y3 y4) (cobs_Decode.j2 (k + 1) y0 y1 y2 y3 y4))
  | 0 => ⟨fun _ _ r h => by simp [cobs_Decode.j0] at h, fun _ _ _ r h => by simp [cobs_Decode.l0] at h, fun _ _ _ _ _ r h => by simp [cobs_Decode.j2] at h⟩
  | k + 1 => by
    obtain ⟨ih0, ih1, ih2⟩ := cobs_Decode.mono_l k
    refine ⟨?_, ?_, ?_⟩
    · intro y0 y1
      unfold cobs_Decode.j0
      repeat' first
      | (with_reducible exact ih0 _ _)
      | (with_reducible exact ih1 _ _ _)
      | (with_reducible exact ih2 _ _ _ _ _)
      | (with_reducible exact cobs_Encode.mono _ _)
      | (with_reducible exact LeO.refl _)
      | (with_reducible exact LeO.none _)
      | (with_reducible refine LeO.ite ?_ ?_)
      | (with_reducible refine LeO.bind ?_ (fun _ => ?_))
      | exact ih0 _ _
      | exact ih1 _ _ _
      | exact ih2 _ _ _ _ _
      | exact cobs_Encode.mono _ _
      | exact LeO.none _
      | refine LeO.ite ?_ ?_
      | refine LeO.bind ?_ (fun _ => ?_)
    · intro y0 y1 y2
      unfold cobs_Decode.l0
      repeat' first
      | (with_reducible exact ih0 _ _)
      | (with_reducible exact ih1 _ _ _)
      | (with_reducible exact ih2 _ _ _ _ _)
      | (with_reducible exact cobs_Encode.mono _ _)
      | (with_reducible exact LeO.refl _)
      | (with_reducible exact LeO.none _)
      | (with_reducible refine LeO.ite ?_ ?_)
      | (with_reducible refine LeO.bind ?_ (fun _ => ?_))
      | exact ih0 _ _
      | exact ih1 _ _ _
      | exact ih2 _ _ _ _ _
      | exact cobs_Encode.mono _ _
      | exact LeO.none _
      | refine LeO.ite ?_ ?_
      | refine LeO.bind ?_ (fun _ => ?_)
    · intro y0 y1 y2 y3 y4
      unfold cobs_Decode.j2
      repeat' first
      | (with_reducible exact ih0 _ _)
      | (with_reducible exact ih1 _ _ _)
      | (with_reducible exact ih2 _ _ _ _ _)
      | (with_reducible exact cobs_Encode.mono _ _)
      | (with_reducible exact LeO.refl _)
      | (with_reducible exact LeO.none _)
      | (with_reducible refine LeO.ite ?_ ?_)
      | (with_reducible refine LeO.bind ?_ (fun _ => ?_))
      | exact ih0 _ _
      | exact ih1 _ _ _
      | exact ih2 _ _ _ _ _
      | exact cobs_Encode.mono _ _
      | exact LeO.none _
      | refine LeO.ite ?_ ?_
      | refine LeO.bind ?_ (fun _ => ?_)
theorem cobs_Decode.mono : ∀ a0 k, LeO (cobs_Decode.f k a0) (cobs_Decode.f (k + 1) a0) := by
  intro a0 k
  obtain ⟨ih0, ih1, ih2⟩ := cobs_Decode.mono_l k
  unfold cobs_Decode.f
  repeat' first
      | (with_reducible exact ih0 _ _)
      | (with_reducible exact ih1 _ _ _)
      | (with_reducible exact ih2 _ _ _ _ _)
      | (with_reducible exact cobs_Encode.mono _ _)
      | (with_reducible exact LeO.refl _)
      | (with_reducible exact LeO.none _)
      | (with_reducible refine LeO.ite ?_ ?_)
      | (with_reducible refine LeO.bind ?_ (fun _ => ?_))
      | exact ih0 _ _
      | exact ih1 _ _ _
      | exact ih2 _ _ _ _ _
      | exact cobs_Encode.mono _ _
      | exact LeO.none _
      | refine LeO.ite ?_ ?_
      | refine LeO.bind ?_ (fun _ => ?_)
set_option maxHeartbeats 8000000 in
set_option maxRecDepth 100000 in
theorem cobs_Decode.calls (k : Nat) (P0_ : Nat → Prop) (A0 : Option Addr) (c0 : Nat) (l0 : List Int) (r1 : List Int) (r2 : Int) (w : World) (hs0 : Kd.V (Kd.int .u8) 5 w w.heap.size (fun k_ => P0_ k_) (.slice A0 l0.length c0) l0) (h : cobs_Decode.f k l0 = some (r1, r2)) :
    Calls Try.prog 15 #[.slice A0 l0.length c0] w fun e w' => ∃ v0_ : Value, e = .returned (.tuple #[v0_, .int .i64 r2]) ∧ Kd.R (Kd.int .u8) 5 w' w.heap.size (fun k_ => (w.heap.size ≤ k_)) v0_ r1 ∧ Below w.heap.size w w' := by
  have HO0 := Aside0.mk (show Kd.V (Kd.int .u8) 5 w w.heap.size (fun k_ => (P0_ k_ ∨ w.heap.size ≤ k_)) (.slice A0 l0.length c0) l0 from Kd.V_mono hs0 (fun k_ hk => .inl hk))
  have HB := Aside0.mk (Below.refl w.heap.size w)
  have H : (if (l0.length : Int) = 0 then (cobs_Decode.j0 k l0 true) else (if 0 ≤ (wrap64 ((l0.length : Int) - 1)) then (if (wrap64 ((l0.length : Int) - 1)) < (l0.length : Int) then (cobs_Decode.j0 k l0 ((rd l0 (wrap64 ((l0.length : Int) - 1))) != 0)) else (none)) else (none))) = some (r1, r2) := h
  clear h
  have HC2 := Aside0.mk H
  clear H
  go_enter Try.func15, Try.ntmps15
  go_upto_region 1 with (fail)
  go_cut [18] (fun v18 wc => ∃ (kq : Nat) (x18_1 : Bool), v18 = .bool x18_1 ∧ Aside0 (cobs_Decode.j0 kq l0 x18_1 = some (r1, r2)) ∧ Aside0 (kq ≤ k) ∧ Aside0 (Kd.V (Kd.int .u8) 5 wc w.heap.size (fun k_ => (P0_ k_ ∨ w.heap.size ≤ k_)) (.slice A0 l0.length c0) l0) ∧ Aside0 (Below w.heap.size w wc))
  case first =>
    have H := HC2.out
    clear HC2
    by_cases c3 : (l0.length : Int) = 0
    · rw [if_pos c3] at H
      have c3b0 : ((l0.length : Int) == 0) = true := beq_iff_eq.mpr c3
      have c3b1 : ((l0.length : Int) != 0) = false := bne_eq_false_iff_eq.mpr c3
      clear c3
      (first | rw [c3b0] | (simp only [i64_w, i32_w]; rw [c3b0]) | skip)
      have H' := Aside0.mk H
      clear H
      go_wp2
      go_meet
      case rel => exact ⟨_, (true), (by first | rfl | (simp; done) | (simp [*]; done)), H', ⟨by first | omega | exact Nat.le_refl _⟩, ⟨by (with_reducible repeat (first | apply Kd.V_alloc | apply Kd.V_drewN | apply Kd.V_drew)); exact HO0.out⟩, ⟨by repeat (first | (with_reducible first | exact HB.out | apply below_alloc | apply pw_below_drewN | apply below_drew1) | exact HB.out)⟩⟩
    · rw [if_neg c3] at H
      have c3b0 : ((l0.length : Int) == 0) = false := beq_eq_false_iff_ne.mpr c3
      have c3b1 : ((l0.length : Int) != 0) = true := bne_iff_ne.mpr c3
      have c3b2 : ¬ (l0 = []) := fun h_ => c3 (by rw [h_]; rfl)
      (first | rw [c3b0] | (simp only [i64_w, i32_w]; rw [c3b0]) | skip)
      obtain ⟨ji4, hji4⟩ : ∃ j_ : Int, (wrap64 ((l0.length : Int) - 1)) = j_ := ⟨_, rfl⟩
      replace H : (if 0 ≤ (ji4) then (if (ji4) < (l0.length : Int) then (cobs_Decode.j0 k l0 ((rd l0 (ji4)) != 0)) else (none)) else (none)) = some (r1, r2) := by first | (rw [hji4] at H; exact H) | (simp only [hji4] at H ⊢; exact H)
      have hji4w : (IntKind.i64.wrap ((l0.length : Int) - 1)) = ji4 := (i64_w _).trans hji4
      by_cases c5 : 0 ≤ (ji4)
      · rw [if_pos c5] at H
        have c5b0 : decide (0 ≤ (ji4)) = true := decide_eq_true c5
        clear c5
        by_cases c6 : (ji4) < (l0.length : Int)
        · rw [if_pos c6] at H
          have c6b0 : decide ((ji4) < (l0.length : Int)) = true := decide_eq_true c6
          clear c6
          have H' := Aside0.mk H
          clear H
          have p131 : 0 ≤ ((ji4) : Int) := of_decide_eq_true (by first | (with_reducible assumption) | assumption)
          have q131 : (ji4) < (l0.length : Int) := of_decide_eq_true (by first | (with_reducible assumption) | assumption)
          obtain ⟨ad131, e131, hx131_0⟩ := Kd.at_int (Kd.V_reads' HO0.out).2.2 (ji4) p131 q131
          cases e131
          replace p131 := eq_true p131
          replace q131 := eq_true q131
          go_wp2
          go_meet
          case rel => exact ⟨_, (((rd l0 (ji4)) != 0)), (by first | rfl | (simp; done) | (simp only [← hji4] <;> (first | rfl | simp)) | (simp [*]; done)), H', ⟨by first | omega | exact Nat.le_refl _⟩, ⟨by (with_reducible repeat (first | apply Kd.V_alloc | apply Kd.V_drewN | apply Kd.V_drew)); exact HO0.out⟩, ⟨by repeat (first | (with_reducible first | exact HB.out | apply below_alloc | apply pw_below_drewN | apply below_drew1) | exact HB.out)⟩⟩
        · rw [if_neg c6] at H
          exact absurd H (by simp)
      · rw [if_neg c5] at H
        exact absurd H (by simp)
  case rest =>
    clear HC2
    try clear c1
    try clear p1
    try clear q1
    try clear hx1
    try clear p2
    try clear c3
    try clear c3b0
    try clear c3b1
    try clear c3b2
    try clear c5
    try clear c5b0
    try clear c6
    try clear c6b0
    try clear p6
    try clear hx131_0
    try clear p131
    try clear q131
    obtain ⟨kq, x18_1, rfl, HA, HJ1, HO_0, HB⟩ := hcut
    cases kq with
    | zero => exact absurd HA.out (by simp [cobs_Decode.j0])
    | succ kj1 =>
      have H := HA.out
      clear HA
      simp only [cobs_Decode.j0] at H
      by_cases c7 : x18_1 = true
      · subst c7
        have H1 : (some (([] : List Int), 3)) = some (r1, r2) := by rw [if_pos rfl] at H; exact H
        clear H
        have H := H1
        clear H1
        simp only [Option.some.injEq, Prod.mk.injEq] at H
        obtain ⟨rfl, rfl⟩ := H
        go_wp2
        go_ret2
        exact ⟨_, by first | rfl | (simp [errW_none, errW_some] <;> rfl) | (simp [*, errW_none, errW_some] <;> rfl), by first | exact Kd.R_nil _ _ _ _ _ | exact Kd.N_nil _ _ _ _ _ | exact Kd.V_nil _ _ _ _ _ | exact Kd.Q_nil _ _ _ _ _ | exact Kd.S_nil _ _ _ _ _, by repeat (first | (with_reducible first | exact HB.out | apply below_alloc | apply pw_below_drewN | apply below_drew1) | exact HB.out)⟩
      · replace c7 := Bool.eq_false_iff.mpr c7
        subst c7
        have H1 : (if 0 ≤ (wrap64 ((l0.length : Int) - 1)) then (if (wrap64 ((l0.length : Int) - 1)) ≤ (l0.length : Int) then (cobs_Decode.l0 kj1 l0 ([] : List Int) (l0.take ((wrap64 ((l0.length : Int) - 1)) : Int).toNat)) else (none)) else (none)) = some (r1, r2) := by rw [if_neg (show ¬ (false = true) by decide)] at H; exact H
        clear H
        have H := H1
        clear H1
        obtain ⟨ji8, hji8⟩ : ∃ j_ : Int, (wrap64 ((l0.length : Int) - 1)) = j_ := ⟨_, rfl⟩
        replace H : (if 0 ≤ (ji8) then (if (ji8) ≤ (l0.length : Int) then (cobs_Decode.l0 kj1 l0 ([] : List Int) (l0.take ((ji8) : Int).toNat)) else (none)) else (none)) = some (r1, r2) := by first | (rw [hji8] at H; exact H) | (simp only [hji8] at H ⊢; exact H)
        have hji8w : (IntKind.i64.wrap ((l0.length : Int) - 1)) = ji8 := (i64_w _).trans hji8
        by_cases c9 : 0 ≤ (ji8)
        · rw [if_pos c9] at H
          have c9b0 := eq_true c9
          have c9b1 : decide (0 ≤ (ji8)) = true := decide_eq_true c9
          clear c9
          by_cases c10 : (ji8) ≤ (l0.length : Int)
          · rw [if_pos c10] at H
            have c10b0 := eq_true c10
            have c10b1 : decide ((ji8) ≤ (l0.length : Int)) = true := decide_eq_true c10
            clear c10
            obtain ⟨y132, hy132⟩ : ∃ y_ : List Int, y_ = (l0.take ((ji8) : Int).toNat) := ⟨_, rfl⟩
            replace H : (cobs_Decode.l0 kj1 l0 ([] : List Int) y132) = some (r1, r2) := by first | (rw [hy132]; with_reducible exact H) | (have H2_ := (Option.bind_some _ _).symm.trans H; rw [hy132]; with_reducible exact H2_) | (have H2_ := (Option.bind_some _ _).symm.trans H; with_reducible exact H2_) | with_reducible exact H | (rw [hy132]; exact H) | exact H
            have Ny132 := Aside0.mk hy132
            clear hy132
            have H' := Aside0.mk H
            clear H
            have q11 : ((ji8) : Int) ≤ ((l0.length : Int) : Int) := of_decide_eq_true (by first | (with_reducible assumption) | assumption)
            obtain ⟨i011, hi011, _, hsz11, _⟩ := info_parts info5
            have hroom11 : l0.length ≤ c0 := (Kd.V_reads' HO_0.out).2.1
            have hC11 : Kd.F (Kd.int .u8) _ _ A0 l0.length l0 := (Kd.V_at (base := w.heap.size) HO_0.out).2.2
            have hcut11 := cut_to (P := Try.prog) 22 5 .i64 Try.underlying22 hi011 A0 l0.length c0 (ji8) (of_decide_eq_true (by first | (with_reducible assumption) | assumption)) q11 hroom11
            have hr11 := Kd.F_take (m := ((ji8) : Int).toNat) hC11 (by omega)
            have hy11 : y132.length = ((ji8) : Int).toNat := (by rw [Ny132.out, List.length_take]; omega)
            rw [← Ny132.out] at hr11
            rw [← hy11] at hcut11
            have HO136 := Aside0.mk (show Kd.V (Kd.int .u8) 5 _ w.heap.size _ (.slice A0 y132.length c0) y132 from Kd.V_mk (by omega) hr11)
            have HC136 := Aside0.mk (show y132.length ≤ c0 from by omega)
            clear hr11 hC11 hroom11 hi011 hsz11
            have KY11 := Aside0.mk hy11
            clear hy11
            replace q11 := eq_true q11
            go_wp2
            go_loopg [4, 5] kj1 (fun kq v4 v5 w' => ∃ (x4_2 : List Int) (x5_2 : List Int), Aside0 (cobs_Decode.l0 kq l0 x4_2 x5_2 = some (r1, r2)) ∧ Aside0 (kq ≤ kj1) ∧ Aside0 (Kd.V (Kd.int .u8) 5 w' w.heap.size (fun k_ => (P0_ k_ ∨ w.heap.size ≤ k_) ∧ some k_ ≠ (v4 : Value).ownBlock) (.slice A0 l0.length c0) l0) ∧ Aside0 (Kd.R (Kd.int .u8) 5 w' w.heap.size (fun k_ => (w.heap.size ≤ k_)) v4 x4_2) ∧ Aside0 (Kd.V (Kd.int .u8) 5 w' w.heap.size (fun k_ => (P0_ k_ ∨ w.heap.size ≤ k_) ∧ some k_ ≠ (v4 : Value).ownBlock) v5 x5_2) ∧ Aside0 (Below w.heap.size w w'))
            case atStart => exact ⟨(([] : List Int)), (y132), H', ⟨Nat.le_refl _⟩, ⟨by (with_reducible repeat (first | apply Kd.V_alloc | apply Kd.V_drewN | apply Kd.V_drew)); exact Kd.V_mono HO_0.out (fun _ hk => ⟨hk, (by simp [Value.ownBlock])⟩)⟩, ⟨by first | exact Kd.R_nil _ _ _ _ _ | exact Kd.N_nil _ _ _ _ _ | exact Kd.V_nil _ _ _ _ _ | exact Kd.Q_nil _ _ _ _ _ | exact Kd.S_nil _ _ _ _ _⟩, ⟨by (with_reducible repeat (first | apply Kd.V_alloc | apply Kd.V_drewN | apply Kd.V_drew)); exact Kd.V_mono HO136.out (fun _ hk => ⟨hk, (by simp [Value.ownBlock])⟩)⟩, ⟨by repeat (first | (with_reducible first | exact HB.out | apply below_alloc | apply pw_below_drewN | apply below_drew1) | exact HB.out)⟩⟩
            case round =>
              clear H'
              try clear c1
              try clear p1
              try clear q1
              try clear hx1
              try clear p2
              try clear c3
              try clear c3b0
              try clear c3b1
              try clear c3b2
              try clear c5
              try clear c5b0
              try clear c6
              try clear c6b0
              try clear p6
              try clear c7
              try clear c9
              try clear c9b0
              try clear c9b1
              try clear c10
              try clear c10b0
              try clear c10b1
              try clear q11
              try clear hx131_0
              try clear p1
              try clear p131
              try clear p2
              try clear p6
              try clear q1
              try clear q11
              try clear q131
              obtain ⟨x4_2, x5_2, HA, HK2, HO_0, HO_4, HO_5, HB⟩ := hrel
              cases gk with
              | zero => exact absurd HA.out (by simp [cobs_Decode.l0])
              | succ k2 =>
                have H := HA.out
                clear HA
                simp only [cobs_Decode.l0] at H
                by_cases c12 : (x5_2.length : Int) > 0
                · rw [if_pos c12] at H
                  have c12b0 : decide (0 < (x5_2.length : Int)) = true := decide_eq_true c12
                  have c12b1 : decide (0 < x5_2.length) = true := decide_eq_true (by omega)
                  clear c12
                  by_cases c13 : 0 < (x5_2.length : Int)
                  · rw [if_pos c13] at H
                    have c13b0 : decide (0 < (x5_2.length : Int)) = true := decide_eq_true c13
                    have c13b1 : decide (0 < x5_2.length) = true := decide_eq_true (by omega)
                    clear c13
                    have HC14 := Aside0.mk H
                    clear H
                    obtain ⟨Ao15, co15, eo15⟩ := Kd.V_slice HO_5.out
                    subst eo15
                    have p137 : 0 ≤ (0 : Int) := (by omega)
                    have q137 : 0 < (x5_2.length : Int) := of_decide_eq_true (by first | (with_reducible assumption) | assumption)
                    obtain ⟨ad137, e137, hx137_0⟩ := Kd.at_int (Kd.V_reads' HO_5.out).2.2 0 p137 q137
                    cases e137
                    have qi137 : (0 < x5_2.length) = True := eq_true (by omega)
                    (try rw [show ((0 : Int)).toNat = 0 from rfl] at hx137_0)
                    (try rw [Addr.add_zero'] at hx137_0)
                    replace p137 := eq_true p137
                    replace q137 := eq_true q137
                    go_upto_region 7 with (fail)
                    go_cut [39] (fun v39 wc => ∃ (kq : Nat) (x39_13 : Bool), v39 = .bool x39_13 ∧ Aside0 (cobs_Decode.j2 kq l0 x4_2 x5_2 (wrap64 ((wrap64 (rd x5_2 0)) - 1)) x39_13 = some (r1, r2)) ∧ Aside0 (kq ≤ k2) ∧ Aside0 (Kd.V (Kd.int .u8) 5 wc w.heap.size (fun k_ => (P0_ k_ ∨ w.heap.size ≤ k_) ∧ some k_ ≠ (u4 : Value).ownBlock) (.slice A0 l0.length c0) l0) ∧ Aside0 (Kd.R (Kd.int .u8) 5 wc w.heap.size (fun k_ => (w.heap.size ≤ k_)) u4 x4_2) ∧ Aside0 (Kd.V (Kd.int .u8) 5 wc w.heap.size (fun k_ => (P0_ k_ ∨ w.heap.size ≤ k_) ∧ some k_ ≠ (u4 : Value).ownBlock) (.slice (some ad137) x5_2.length co15) x5_2) ∧ Aside0 (Below w.heap.size w wc))
                    case first =>
                      have H := HC14.out
                      clear HC14
                      by_cases c16 : (wrap64 ((wrap64 (rd x5_2 0)) - 1)) < 0
                      · rw [if_pos c16] at H
                        have c16b0 : decide ((wrap64 ((wrap64 (rd x5_2 0)) - 1)) < 0) = true := decide_eq_true c16
                        clear c16
                        (first | rw [c16b0] | (simp only [i64_w, i32_w]; rw [c16b0]) | skip)
                        have H' := Aside0.mk H
                        clear H
                        go_wp2
                        go_meet
                        case rel => exact ⟨_, (true), (by first | rfl | (simp; done) | (simp [*]; done)), H', ⟨by have := HJ1.out; have := HK2.out; first | omega | exact Nat.le_refl _⟩, ⟨by (with_reducible repeat (first | apply Kd.V_alloc | apply Kd.V_drewN | apply Kd.V_drew)); exact HO_0.out⟩, ⟨by (with_reducible repeat (first | apply Kd.R_alloc | apply Kd.R_drewN | apply Kd.R_drew)); exact HO_4.out⟩, ⟨by (with_reducible repeat (first | apply Kd.V_alloc | apply Kd.V_drewN | apply Kd.V_drew)); exact HO_5.out⟩, ⟨by repeat (first | (with_reducible first | exact HB.out | apply below_alloc | apply pw_below_drewN | apply below_drew1) | exact HB.out)⟩⟩
                      · rw [if_neg c16] at H
                        have c16b0 : decide ((wrap64 ((wrap64 (rd x5_2 0)) - 1)) < 0) = false := decide_eq_false c16
                        clear c16
                        (first | rw [c16b0] | (simp only [i64_w, i32_w]; rw [c16b0]) | skip)
                        have H' := Aside0.mk H
                        clear H
                        go_wp2
                        go_meet
                        case rel => exact ⟨_, (decide ((wrap64 ((wrap64 (rd x5_2 0)) - 1)) ≥ (x5_2.length : Int))), (by first | rfl | (simp; done) | (simp [*]; done)), H', ⟨by have := HJ1.out; have := HK2.out; first | omega | exact Nat.le_refl _⟩, ⟨by (with_reducible repeat (first | apply Kd.V_alloc | apply Kd.V_drewN | apply Kd.V_drew)); exact HO_0.out⟩, ⟨by (with_reducible repeat (first | apply Kd.R_alloc | apply Kd.R_drewN | apply Kd.R_drew)); exact HO_4.out⟩, ⟨by (with_reducible repeat (first | apply Kd.V_alloc | apply Kd.V_drewN | apply Kd.V_drew)); exact HO_5.out⟩, ⟨by repeat (first | (with_reducible first | exact HB.out | apply below_alloc | apply pw_below_drewN | apply below_drew1) | exact HB.out)⟩⟩
                    case rest =>
                      clear HC14
                      try clear c1
                      try clear p1
                      try clear q1
                      try clear hx1
                      try clear qi1
                      try clear p2
                      try clear c3
                      try clear c3b0
                      try clear c3b1
                      try clear c3b2
                      try clear c5
                      try clear c5b0
                      try clear c6
                      try clear c6b0
                      try clear p6
                      try clear c7
                      try clear c9
                      try clear c9b0
                      try clear c9b1
                      try clear c10
                      try clear c10b0
                      try clear c10b1
                      try clear q11
                      try clear c12
                      try clear c12b0
                      try clear c12b1
                      try clear c13
                      try clear c13b0
                      try clear c13b1
                      try clear p13
                      try clear q13
                      try clear hx13
                      try clear qi13
                      try clear c15
                      try clear c16
                      try clear c16b0
                      try clear hx131_0
                      try clear hx137_0
                      try clear p1
                      try clear p131
                      try clear p137
                      try clear p2
                      try clear p6
                      try clear q1
                      try clear q11
                      try clear q131
                      try clear q137
                      obtain ⟨kq, x39_13, rfl, HA, HJ13, HO_0, HO_4, HO_5, HB⟩ := hcut
                      cases kq with
                      | zero => exact absurd HA.out (by simp [cobs_Decode.j2])
                      | succ kj13 =>
                        have H := HA.out
                        clear HA
                        simp only [cobs_Decode.j2] at H
                        by_cases c17 : x39_13 = true
                        · subst c17
                          have H1 : (some (([] : List Int), 2)) = some (r1, r2) := by rw [if_pos rfl] at H; exact H
                          clear H
                          have H := H1
                          clear H1
                          simp only [Option.some.injEq, Prod.mk.injEq] at H
                          obtain ⟨rfl, rfl⟩ := H
                          go_wp2
                          go_ret2
                          exact ⟨_, by first | rfl | (simp [errW_none, errW_some] <;> rfl) | (simp only [← hji8]; first | rfl | (simp [errW_none, errW_some] <;> rfl)) | (simp [*, errW_none, errW_some] <;> rfl), by first | exact Kd.R_nil _ _ _ _ _ | exact Kd.N_nil _ _ _ _ _ | exact Kd.V_nil _ _ _ _ _ | exact Kd.Q_nil _ _ _ _ _ | exact Kd.S_nil _ _ _ _ _, by repeat (first | (with_reducible first | exact HB.out | apply below_alloc | apply pw_below_drewN | apply below_drew1) | exact HB.out)⟩
                        · replace c17 := Bool.eq_false_iff.mpr c17
                          subst c17
                          have H1 : (if 1 ≤ (wrap64 (1 + (wrap64 ((wrap64 (rd x5_2 0)) - 1)))) then (if (wrap64 (1 + (wrap64 ((wrap64 (rd x5_2 0)) - 1)))) ≤ (x5_2.length : Int) then ((some ((x5_2.take ((wrap64 (1 + (wrap64 ((wrap64 (rd x5_2 0)) - 1)))) : Int).toNat).drop 1 : List Int)).bind fun y138 => (if x4_2.length + y138.length < 140737488355328 then ((some (x4_2 ++ y138 : List Int)).bind fun y143 => (if 0 ≤ (wrap64 (1 + (wrap64 ((wrap64 (rd x5_2 0)) - 1)))) then ((some (x5_2.drop ((wrap64 (1 + (wrap64 ((wrap64 (rd x5_2 0)) - 1)))) : Int).toNat : List Int)).bind fun y146 => (if (y146.length : Int) > 0 then (if (wrap64 ((wrap64 (rd x5_2 0)) - 1)) < 254 then (if y143.length < 140737488355328 then (cobs_Decode.l0 kj13 l0 (y143 ++ [0]) y146) else (none)) else (cobs_Decode.l0 kj13 l0 y143 y146)) else (cobs_Decode.l0 kj13 l0 y143 y146))) else (none))) else (none))) else (none)) else (none)) = some (r1, r2) := by rw [if_neg (show ¬ (false = true) by decide)] at H; exact H
                          clear H
                          have H := H1
                          clear H1
                          by_cases c18 : 1 ≤ (wrap64 (1 + (wrap64 ((wrap64 (rd x5_2 0)) - 1))))
                          · rw [if_pos c18] at H
                            have c18b0 := eq_true c18
                            have c18b1 : decide (1 ≤ (wrap64 (1 + (wrap64 ((wrap64 (rd x5_2 0)) - 1))))) = true := decide_eq_true c18
                            by_cases c19 : (wrap64 (1 + (wrap64 ((wrap64 (rd x5_2 0)) - 1)))) ≤ (x5_2.length : Int)
                            · rw [if_pos c19] at H
                              have c19b0 := eq_true c19
                              have c19b1 : decide ((wrap64 (1 + (wrap64 ((wrap64 (rd x5_2 0)) - 1)))) ≤ (x5_2.length : Int)) = true := decide_eq_true c19
                              obtain ⟨y138, hy138⟩ : ∃ y_ : List Int, y_ = ((x5_2.take ((wrap64 (1 + (wrap64 ((wrap64 (rd x5_2 0)) - 1)))) : Int).toNat).drop 1) := ⟨_, rfl⟩
                              replace H : (if x4_2.length + y138.length < 140737488355328 then ((some (x4_2 ++ y138 : List Int)).bind fun y143 => (if 0 ≤ (wrap64 (1 + (wrap64 ((wrap64 (rd x5_2 0)) - 1)))) then ((some (x5_2.drop ((wrap64 (1 + (wrap64 ((wrap64 (rd x5_2 0)) - 1)))) : Int).toNat : List Int)).bind fun y146 => (if (y146.length : Int) > 0 then (if (wrap64 ((wrap64 (rd x5_2 0)) - 1)) < 254 then (if y143.length < 140737488355328 then (cobs_Decode.l0 kj13 l0 (y143 ++ [0]) y146) else (none)) else (cobs_Decode.l0 kj13 l0 y143 y146)) else (cobs_Decode.l0 kj13 l0 y143 y146))) else (none))) else (none)) = some (r1, r2) := by first | (rw [hy138]; with_reducible exact H) | (have H2_ := (Option.bind_some _ _).symm.trans H; rw [hy138]; with_reducible exact H2_) | (have H2_ := (Option.bind_some _ _).symm.trans H; with_reducible exact H2_) | with_reducible exact H | (rw [hy138]; exact H) | exact H
                              have Ny138 := Aside0.mk hy138
                              clear hy138
                              by_cases c20 : x4_2.length + y138.length < 140737488355328
                              · rw [if_pos c20] at H
                                have LMc20 := Aside0.mk c20
                                clear c20
                                obtain ⟨y143, hy143⟩ : ∃ y_ : List Int, y_ = (x4_2 ++ y138) := ⟨_, rfl⟩
                                replace H : (if 0 ≤ (wrap64 (1 + (wrap64 ((wrap64 (rd x5_2 0)) - 1)))) then ((some (x5_2.drop ((wrap64 (1 + (wrap64 ((wrap64 (rd x5_2 0)) - 1)))) : Int).toNat : List Int)).bind fun y146 => (if (y146.length : Int) > 0 then (if (wrap64 ((wrap64 (rd x5_2 0)) - 1)) < 254 then (if y143.length < 140737488355328 then (cobs_Decode.l0 kj13 l0 (y143 ++ [0]) y146) else (none)) else (cobs_Decode.l0 kj13 l0 y143 y146)) else (cobs_Decode.l0 kj13 l0 y143 y146))) else (none)) = some (r1, r2) := by first | (rw [hy143]; with_reducible exact H) | (have H2_ := (Option.bind_some _ _).symm.trans H; rw [hy143]; with_reducible exact H2_) | (have H2_ := (Option.bind_some _ _).symm.trans H; with_reducible exact H2_) | with_reducible exact H | (rw [hy143]; exact H) | exact H
                                have Ny143 := Aside0.mk hy143
                                clear hy143
                                obtain ⟨ji21, hji21⟩ : ∃ j_ : Int, (wrap64 (1 + (wrap64 ((wrap64 (rd x5_2 0)) - 1)))) = j_ := ⟨_, rfl⟩
                                replace H : (if 0 ≤ (ji21) then ((some (x5_2.drop ((ji21) : Int).toNat : List Int)).bind fun y146 => (if (y146.length : Int) > 0 then (if (wrap64 ((wrap64 (rd x5_2 0)) - 1)) < 254 then (if y143.length < 140737488355328 then (cobs_Decode.l0 kj13 l0 (y143 ++ [0]) y146) else (none)) else (cobs_Decode.l0 kj13 l0 y143 y146)) else (cobs_Decode.l0 kj13 l0 y143 y146))) else (none)) = some (r1, r2) := by first | (rw [hji21] at H; exact H) | (simp only [hji21] at H ⊢; exact H)
                                (try rw [hji21] at c18b0)
                                (try rw [hji21] at c18b1)
                                (try rw [hji21] at c18)
                                (try rw [hji21] at c19b0)
                                (try rw [hji21] at c19b1)
                                (try rw [hji21] at c19)
                                (try rw [hji21] at Ny138)
                                (try rw [hji21] at Ny138)
                                have hji21w : (IntKind.i64.wrap (1 + (wrap64 ((wrap64 (rd x5_2 0)) - 1)))) = ji21 := (i64_w _).trans hji21
                                by_cases c22 : 0 ≤ (ji21)
                                · rw [if_pos c22] at H
                                  have c22b0 := eq_true c22
                                  have c22b1 : decide (0 ≤ (ji21)) = true := decide_eq_true c22
                                  clear c22
                                  have c23b0 := eq_true (of_decide_eq_true (by first | (with_reducible assumption) | assumption) : (ji21) ≤ (x5_2.length : Int))
                                  obtain ⟨y146, hy146⟩ : ∃ y_ : List Int, y_ = (x5_2.drop ((ji21) : Int).toNat) := ⟨_, rfl⟩
                                  replace H : (if (y146.length : Int) > 0 then (if (wrap64 ((wrap64 (rd x5_2 0)) - 1)) < 254 then (if y143.length < 140737488355328 then (cobs_Decode.l0 kj13 l0 (y143 ++ [0]) y146) else (none)) else (cobs_Decode.l0 kj13 l0 y143 y146)) else (cobs_Decode.l0 kj13 l0 y143 y146)) = some (r1, r2) := by first | (rw [hy146]; with_reducible exact H) | (have H2_ := (Option.bind_some _ _).symm.trans H; rw [hy146]; with_reducible exact H2_) | (have H2_ := (Option.bind_some _ _).symm.trans H; with_reducible exact H2_) | with_reducible exact H | (rw [hy146]; exact H) | exact H
                                  have Ny146 := Aside0.mk hy146
                                  clear hy146
                                  by_cases c24 : (y146.length : Int) > 0
                                  · rw [if_pos c24] at H
                                    have c24b0 : decide (0 < (y146.length : Int)) = true := decide_eq_true c24
                                    have c24b1 : decide (0 < y146.length) = true := decide_eq_true (by omega)
                                    clear c24
                                    by_cases c25 : (wrap64 ((wrap64 (rd x5_2 0)) - 1)) < 254
                                    · rw [if_pos c25] at H
                                      have c25b0 : decide ((wrap64 ((wrap64 (rd x5_2 0)) - 1)) < 254) = true := decide_eq_true c25
                                      clear c25
                                      by_cases c26 : y143.length < 140737488355328
                                      · rw [if_pos c26] at H
                                        have LMc26 := Aside0.mk c26
                                        clear c26
                                        obtain ⟨y151, hy151⟩ : ∃ y_ : List Int, y_ = (y143 ++ [0]) := ⟨_, rfl⟩
                                        replace H : (cobs_Decode.l0 kj13 l0 y151 y146) = some (r1, r2) := by first | (rw [hy151]; with_reducible exact H) | (have H2_ := (Option.bind_some _ _).symm.trans H; rw [hy151]; with_reducible exact H2_) | (have H2_ := (Option.bind_some _ _).symm.trans H; with_reducible exact H2_) | with_reducible exact H | (rw [hy151]; exact H) | exact H
                                        have Ny151 := Aside0.mk hy151
                                        clear hy151
                                        have H' := Aside0.mk H
                                        clear H
                                        have q27 : ((ji21) : Int) ≤ ((x5_2.length : Int) : Int) := of_decide_eq_true (by first | (with_reducible assumption) | assumption)
                                        obtain ⟨i027, hi027, _, hsz27, _⟩ := info_parts info5
                                        have hroom27 : x5_2.length ≤ co15 := (Kd.V_reads' HO_5.out).2.1
                                        have hC27 : Kd.F (Kd.int .u8) _ _ (some ad137) x5_2.length x5_2 := (Kd.V_at (base := w.heap.size) HO_5.out).2.2
                                        have ql27 : (1 : Int) ≤ ((ji21) : Int) := of_decide_eq_true (by first | (with_reducible assumption) | assumption)
                                        have hcut27 := cut_mid (P := Try.prog) 22 5 .i64 .i64 Try.underlying22 hi027 1 hsz27 (some ad137) x5_2.length co15 1 (ji21) (by omega) ql27 q27 hroom27
                                        have hr27 := Kd.F_mid (lo := (1 : Int).toNat) (hi := ((ji21) : Int).toNat) (c := co15) hC27 (by omega) (by omega) hroom27
                                        obtain ⟨A27, hA27⟩ : ∃ A1, A1 = (if co15 = (1 : Int).toNat then (some ad137) else ((some ad137) : Option Addr).map (·.add ((1 : Int).toNat * 1))) := ⟨_, rfl⟩
                                        obtain ⟨c27, hc27⟩ : ∃ c1, c1 = co15 - (1 : Int).toNat := ⟨_, rfl⟩
                                        have hy27 : y138.length = ((ji21) : Int).toNat - (1 : Int).toNat := (by rw [Ny138.out, List.length_drop, List.length_take] <;> omega)
                                        rw [show ((x5_2).take ((ji21) : Int).toNat).drop (1 : Int).toNat = y138 from Ny138.out.symm] at hr27
                                        replace hr27 : Kd.F (Kd.int .u8) _ _ A27 y138.length y138 := (by rw [hA27]; exact hr27)
                                        rw [← hy27, ← hA27, ← hc27] at hcut27
                                        have HO142 := Aside0.mk (show Kd.V (Kd.int .u8) 5 _ w.heap.size _ (.slice A27 y138.length c27) y138 from Kd.V_mk (by rw [hy27, hc27]; exact Nat.sub_le_sub_right (Nat.le_trans (by omega) hroom27) _) hr27)
                                        have HC142 := Aside0.mk (show y138.length ≤ c27 from by rw [hy27, hc27]; exact Nat.sub_le_sub_right (Nat.le_trans (by omega) hroom27) _)
                                        clear hr27 hC27 hroom27 hi027 hsz27 hc27
                                        have KY27 := Aside0.mk hy27
                                        have KA27 := Aside0.mk hA27
                                        clear hy27 hA27
                                        replace q27 := eq_true q27
                                        go_wp2_with (first | ((with_reducible refine gate_builtin (b := .append) (xs := #[.tmp 40, .tmp 44]) rfl ?_); (try (refine gate_guard (by rfl) ?_; dsimp only)); at_builtin; refine Kd.R_append_rows (Kd.int .u8) (w0 := w) w.heap.size rfl (.tmp 40) (.tmp 44) 22 5 (.int .u8 0) 1 rfl Try.underlying22 info5 rfl (by decide) (by omega) u4 x4_2 y138 _ _ _ (fun k_ => (w.heap.size ≤ k_)) (fun _ => False) rfl rfl ?aO ?aR (fun _ _ h => h) (fun _ h => h.elim) ?aF ?aB ?aS ?aL ?_; (case aR => repeat (first | exact (Kd.V_reads' HO142.out).2.2 | (with_reducible refine Kd.C_alloc ?_ _) | (with_reducible refine Kd.C_drewN ?_ _) | (with_reducible refine Kd.C_drew ?_))); (case aB => exact (by repeat (first | (with_reducible first | exact HB.out | apply below_alloc | apply pw_below_drewN | apply below_drew1) | exact HB.out))); (case aF => exact (fun k_ hk => (Nat.le_trans (below_size (by repeat (first | (with_reducible first | exact HB.out | apply below_alloc | apply pw_below_drewN | apply below_drew1) | exact HB.out))) hk))); (case aO => exact (by (with_reducible repeat (first | apply Kd.R_alloc | apply Kd.R_drewN | apply Kd.R_drew)); exact HO_4.out)); (case aS => exact (below_size (by repeat (first | (with_reducible first | exact HB.out | apply below_alloc | apply pw_below_drewN | apply below_drew1) | exact HB.out)))); (case aL => have := LMc20.out; omega); intro v144 w28 ho hb hg hat; rw [← Ny143.out] at ho; have n0_ := Aside0.mk (Kd.V_afterv (ok := (fun k_ => (P0_ k_ ∨ w.heap.size ≤ k_))) (by (with_reducible repeat (first | apply Kd.V_alloc | apply Kd.V_drewN | apply Kd.V_drew)); exact HO_0.out) hg hat); have n1_ := Aside0.mk (Kd.V_afterv (ok := (fun k_ => (P0_ k_ ∨ w.heap.size ≤ k_))) (by (with_reducible repeat (first | apply Kd.V_alloc | apply Kd.V_drewN | apply Kd.V_drew)); exact HO_5.out) hg hat); have n2_ := Aside0.mk (Kd.V_afterv (ok := (fun k_ => (P0_ k_ ∨ w.heap.size ≤ k_))) (by (with_reducible repeat (first | apply Kd.V_alloc | apply Kd.V_drewN | apply Kd.V_drew)); exact HO142.out) hg hat); have n3_ := Aside0.mk (hb); have n4_ := Aside0.mk (ho); clear HO_0; clear HO_5; clear HO142; clear HB; clear HO_4; have HO_0 := n0_; have HO_5 := n1_; have HO142 := n2_; have HB := n3_; have HO145 := n4_; clear n0_ n1_ n2_ n3_ n4_; clear ho hb hg hat; have q29 : ((ji21) : Int) ≤ ((x5_2.length : Int) : Int) := of_decide_eq_true (by first | (with_reducible assumption) | assumption); obtain ⟨i029, hi029, _, hsz29, _⟩ := info_parts info5; have hroom29 : x5_2.length ≤ co15 := (Kd.V_reads' HO_5.out).2.1; have hC29 : Kd.F (Kd.int .u8) _ _ (some ad137) x5_2.length x5_2 := (Kd.V_at (base := w.heap.size) HO_5.out).2.2; have q029 : (0 : Int) ≤ ((ji21) : Int) := of_decide_eq_true (by first | (with_reducible assumption) | assumption); have hcut29 := cut_from (P := Try.prog) 22 5 .i64 Try.underlying22 hi029 1 hsz29 (some ad137) x5_2.length co15 (ji21) q029 q29; have hr29 := Kd.F_cut (m := ((ji21) : Int).toNat) (c := co15) hC29 (by omega) hroom29; obtain ⟨A29, hA29⟩ : ∃ A1, A1 = (if co15 = ((ji21) : Int).toNat then (some ad137) else ((some ad137) : Option Addr).map (·.add (((ji21) : Int).toNat * 1))) := ⟨_, rfl⟩; obtain ⟨c29, hc29⟩ : ∃ c1, c1 = co15 - ((ji21) : Int).toNat := ⟨_, rfl⟩; have hy29 : y146.length = x5_2.length - ((ji21) : Int).toNat := (by rw [Ny146.out, List.length_drop] <;> omega); rw [show (x5_2).drop ((ji21) : Int).toNat = y146 from Ny146.out.symm] at hr29; replace hr29 : Kd.F (Kd.int .u8) _ _ A29 y146.length y146 := (by rw [hA29]; exact hr29); rw [← hy29, ← hA29, ← hc29] at hcut29; have HO150 := Aside0.mk (show Kd.V (Kd.int .u8) 5 _ w.heap.size _ (.slice A29 y146.length c29) y146 from Kd.V_mk (by rw [hy29, hc29]; exact Nat.sub_le_sub_right hroom29 _) hr29); have HC150 := Aside0.mk (show y146.length ≤ c29 from by rw [hy29, hc29]; exact Nat.sub_le_sub_right hroom29 _); clear hr29 hC29 hroom29 hi029 hsz29 hc29; have KY29 := Aside0.mk hy29; have KA29 := Aside0.mk hA29; clear hy29 hA29; replace q29 := eq_true q29) | ((with_reducible refine gate_builtin (b := .append) (xs := #[.tmp 57, .tmp 58]) rfl ?_); (try (refine gate_guard (by rfl) ?_; dsimp only)); at_builtin; refine Kd.R_append (Kd.int .u8) (w0 := w) w.heap.size rfl (.tmp 57) (.tmp 58) 22 5 (.int .u8 0) 1 rfl Try.underlying22 info5 rfl (by decide) (by omega) v144 y143 0 [.int .u8 0] (fun k_ => (w.heap.size ≤ k_)) (fun _ => False) rfl rfl ?aP (fun _ hk => hk.elim) ?aF ?aO ?aB ?aS ?aL ?_; (case aP => exact rfl); (case aB => exact (by repeat (first | (with_reducible first | exact HB.out | apply below_alloc | apply pw_below_drewN | apply below_drew1) | exact HB.out))); (case aF => exact (fun k_ hk => (Nat.le_trans (below_size (by repeat (first | (with_reducible first | exact HB.out | apply below_alloc | apply pw_below_drewN | apply below_drew1) | exact HB.out))) hk))); (case aO => exact (by (with_reducible repeat (first | apply Kd.R_alloc | apply Kd.R_drewN | apply Kd.R_drew)); exact HO145.out)); (case aS => exact (below_size (by repeat (first | (with_reducible first | exact HB.out | apply below_alloc | apply pw_below_drewN | apply below_drew1) | exact HB.out)))); (case aL => have := LMc26.out; omega); intro v152 w30 ho hb hg hat; rw [← Ny151.out] at ho; have n0_ := Aside0.mk (Kd.V_afterv (ok := (fun k_ => (P0_ k_ ∨ w.heap.size ≤ k_))) (by (with_reducible repeat (first | apply Kd.V_alloc | apply Kd.V_drewN | apply Kd.V_drew)); exact HO_0.out) hg hat); have n1_ := Aside0.mk (Kd.V_afterv (ok := (fun k_ => (P0_ k_ ∨ w.heap.size ≤ k_))) (by (with_reducible repeat (first | apply Kd.V_alloc | apply Kd.V_drewN | apply Kd.V_drew)); exact HO_5.out) hg hat); have n2_ := Aside0.mk (Kd.V_afterv (ok := (fun k_ => (P0_ k_ ∨ w.heap.size ≤ k_))) (by (with_reducible repeat (first | apply Kd.V_alloc | apply Kd.V_drewN | apply Kd.V_drew)); exact HO142.out) hg hat); have n3_ := Aside0.mk (Kd.V_afterv (ok := (fun k_ => (P0_ k_ ∨ w.heap.size ≤ k_))) (by (with_reducible repeat (first | apply Kd.V_alloc | apply Kd.V_drewN | apply Kd.V_drew)); exact HO150.out) hg hat); have n4_ := Aside0.mk (hb); have n5_ := Aside0.mk (ho); clear HO_0; clear HO_5; clear HO142; clear HO150; clear HB; clear HO145; have HO_0 := n0_; have HO_5 := n1_; have HO142 := n2_; have HO150 := n3_; have HB := n4_; have HO153 := n5_; clear n0_ n1_ n2_ n3_ n4_ n5_; clear ho hb hg hat))
                                        go_roundg kj13
                                        case measure => have := HJ1.out; have := HK2.out; have := HJ13.out; omega
                                        case rel => exact ⟨(y151), (y146), H', ⟨by have := HJ1.out; have := HK2.out; have := HJ13.out; omega⟩, ⟨by (with_reducible repeat (first | apply Kd.V_alloc | apply Kd.V_drewN | apply Kd.V_drew)); exact HO_0.out⟩, ⟨by (with_reducible repeat (first | apply Kd.R_alloc | apply Kd.R_drewN | apply Kd.R_drew)); exact HO153.out⟩, ⟨by (with_reducible repeat (first | apply Kd.V_alloc | apply Kd.V_drewN | apply Kd.V_drew)); exact HO150.out⟩, ⟨by repeat (first | (with_reducible first | exact HB.out | apply below_alloc | apply pw_below_drewN | apply below_drew1) | exact HB.out)⟩⟩
                                      · rw [if_neg c26] at H
                                        exact absurd H (by simp)
                                    · rw [if_neg c25] at H
                                      have c25b0 : decide ((wrap64 ((wrap64 (rd x5_2 0)) - 1)) < 254) = false := decide_eq_false c25
                                      clear c25
                                      have H' := Aside0.mk H
                                      clear H
                                      have q31 : ((ji21) : Int) ≤ ((x5_2.length : Int) : Int) := of_decide_eq_true (by first | (with_reducible assumption) | assumption)
                                      obtain ⟨i031, hi031, _, hsz31, _⟩ := info_parts info5
                                      have hroom31 : x5_2.length ≤ co15 := (Kd.V_reads' HO_5.out).2.1
                                      have hC31 : Kd.F (Kd.int .u8) _ _ (some ad137) x5_2.length x5_2 := (Kd.V_at (base := w.heap.size) HO_5.out).2.2
                                      have ql31 : (1 : Int) ≤ ((ji21) : Int) := of_decide_eq_true (by first | (with_reducible assumption) | assumption)
                                      have hcut31 := cut_mid (P := Try.prog) 22 5 .i64 .i64 Try.underlying22 hi031 1 hsz31 (some ad137) x5_2.length co15 1 (ji21) (by omega) ql31 q31 hroom31
                                      have hr31 := Kd.F_mid (lo := (1 : Int).toNat) (hi := ((ji21) : Int).toNat) (c := co15) hC31 (by omega) (by omega) hroom31
                                      obtain ⟨A31, hA31⟩ : ∃ A1, A1 = (if co15 = (1 : Int).toNat then (some ad137) else ((some ad137) : Option Addr).map (·.add ((1 : Int).toNat * 1))) := ⟨_, rfl⟩
                                      obtain ⟨c31, hc31⟩ : ∃ c1, c1 = co15 - (1 : Int).toNat := ⟨_, rfl⟩
                                      have hy31 : y138.length = ((ji21) : Int).toNat - (1 : Int).toNat := (by rw [Ny138.out, List.length_drop, List.length_take] <;> omega)
                                      rw [show ((x5_2).take ((ji21) : Int).toNat).drop (1 : Int).toNat = y138 from Ny138.out.symm] at hr31
                                      replace hr31 : Kd.F (Kd.int .u8) _ _ A31 y138.length y138 := (by rw [hA31]; exact hr31)
                                      rw [← hy31, ← hA31, ← hc31] at hcut31
                                      have HO142 := Aside0.mk (show Kd.V (Kd.int .u8) 5 _ w.heap.size _ (.slice A31 y138.length c31) y138 from Kd.V_mk (by rw [hy31, hc31]; exact Nat.sub_le_sub_right (Nat.le_trans (by omega) hroom31) _) hr31)
                                      have HC142 := Aside0.mk (show y138.length ≤ c31 from by rw [hy31, hc31]; exact Nat.sub_le_sub_right (Nat.le_trans (by omega) hroom31) _)
                                      clear hr31 hC31 hroom31 hi031 hsz31 hc31
                                      have KY31 := Aside0.mk hy31
                                      have KA31 := Aside0.mk hA31
                                      clear hy31 hA31
                                      replace q31 := eq_true q31
                                      go_wp2_with (first | ((with_reducible refine gate_builtin (b := .append) (xs := #[.tmp 40, .tmp 44]) rfl ?_); (try (refine gate_guard (by rfl) ?_; dsimp only)); at_builtin; refine Kd.R_append_rows (Kd.int .u8) (w0 := w) w.heap.size rfl (.tmp 40) (.tmp 44) 22 5 (.int .u8 0) 1 rfl Try.underlying22 info5 rfl (by decide) (by omega) u4 x4_2 y138 _ _ _ (fun k_ => (w.heap.size ≤ k_)) (fun _ => False) rfl rfl ?aO ?aR (fun _ _ h => h) (fun _ h => h.elim) ?aF ?aB ?aS ?aL ?_; (case aR => repeat (first | exact (Kd.V_reads' HO142.out).2.2 | (with_reducible refine Kd.C_alloc ?_ _) | (with_reducible refine Kd.C_drewN ?_ _) | (with_reducible refine Kd.C_drew ?_))); (case aB => exact (by repeat (first | (with_reducible first | exact HB.out | apply below_alloc | apply pw_below_drewN | apply below_drew1) | exact HB.out))); (case aF => exact (fun k_ hk => (Nat.le_trans (below_size (by repeat (first | (with_reducible first | exact HB.out | apply below_alloc | apply pw_below_drewN | apply below_drew1) | exact HB.out))) hk))); (case aO => exact (by (with_reducible repeat (first | apply Kd.R_alloc | apply Kd.R_drewN | apply Kd.R_drew)); exact HO_4.out)); (case aS => exact (below_size (by repeat (first | (with_reducible first | exact HB.out | apply below_alloc | apply pw_below_drewN | apply below_drew1) | exact HB.out)))); (case aL => have := LMc20.out; omega); intro v144 w32 ho hb hg hat; rw [← Ny143.out] at ho; have n0_ := Aside0.mk (Kd.V_afterv (ok := (fun k_ => (P0_ k_ ∨ w.heap.size ≤ k_))) (by (with_reducible repeat (first | apply Kd.V_alloc | apply Kd.V_drewN | apply Kd.V_drew)); exact HO_0.out) hg hat); have n1_ := Aside0.mk (Kd.V_afterv (ok := (fun k_ => (P0_ k_ ∨ w.heap.size ≤ k_))) (by (with_reducible repeat (first | apply Kd.V_alloc | apply Kd.V_drewN | apply Kd.V_drew)); exact HO_5.out) hg hat); have n2_ := Aside0.mk (Kd.V_afterv (ok := (fun k_ => (P0_ k_ ∨ w.heap.size ≤ k_))) (by (with_reducible repeat (first | apply Kd.V_alloc | apply Kd.V_drewN | apply Kd.V_drew)); exact HO142.out) hg hat); have n3_ := Aside0.mk (hb); have n4_ := Aside0.mk (ho); clear HO_0; clear HO_5; clear HO142; clear HB; clear HO_4; have HO_0 := n0_; have HO_5 := n1_; have HO142 := n2_; have HB := n3_; have HO145 := n4_; clear n0_ n1_ n2_ n3_ n4_; clear ho hb hg hat; have q33 : ((ji21) : Int) ≤ ((x5_2.length : Int) : Int) := of_decide_eq_true (by first | (with_reducible assumption) | assumption); obtain ⟨i033, hi033, _, hsz33, _⟩ := info_parts info5; have hroom33 : x5_2.length ≤ co15 := (Kd.V_reads' HO_5.out).2.1; have hC33 : Kd.F (Kd.int .u8) _ _ (some ad137) x5_2.length x5_2 := (Kd.V_at (base := w.heap.size) HO_5.out).2.2; have q033 : (0 : Int) ≤ ((ji21) : Int) := of_decide_eq_true (by first | (with_reducible assumption) | assumption); have hcut33 := cut_from (P := Try.prog) 22 5 .i64 Try.underlying22 hi033 1 hsz33 (some ad137) x5_2.length co15 (ji21) q033 q33; have hr33 := Kd.F_cut (m := ((ji21) : Int).toNat) (c := co15) hC33 (by omega) hroom33; obtain ⟨A33, hA33⟩ : ∃ A1, A1 = (if co15 = ((ji21) : Int).toNat then (some ad137) else ((some ad137) : Option Addr).map (·.add (((ji21) : Int).toNat * 1))) := ⟨_, rfl⟩; obtain ⟨c33, hc33⟩ : ∃ c1, c1 = co15 - ((ji21) : Int).toNat := ⟨_, rfl⟩; have hy33 : y146.length = x5_2.length - ((ji21) : Int).toNat := (by rw [Ny146.out, List.length_drop] <;> omega); rw [show (x5_2).drop ((ji21) : Int).toNat = y146 from Ny146.out.symm] at hr33; replace hr33 : Kd.F (Kd.int .u8) _ _ A33 y146.length y146 := (by rw [hA33]; exact hr33); rw [← hy33, ← hA33, ← hc33] at hcut33; have HO150 := Aside0.mk (show Kd.V (Kd.int .u8) 5 _ w.heap.size _ (.slice A33 y146.length c33) y146 from Kd.V_mk (by rw [hy33, hc33]; exact Nat.sub_le_sub_right hroom33 _) hr33); have HC150 := Aside0.mk (show y146.length ≤ c33 from by rw [hy33, hc33]; exact Nat.sub_le_sub_right hroom33 _); clear hr33 hC33 hroom33 hi033 hsz33 hc33; have KY33 := Aside0.mk hy33; have KA33 := Aside0.mk hA33; clear hy33 hA33; replace q33 := eq_true q33))
                                      go_roundg kj13
                                      case measure => have := HJ1.out; have := HK2.out; have := HJ13.out; omega
                                      case rel => exact ⟨(y143), (y146), H', ⟨by have := HJ1.out; have := HK2.out; have := HJ13.out; omega⟩, ⟨by (with_reducible repeat (first | apply Kd.V_alloc | apply Kd.V_drewN | apply Kd.V_drew)); exact HO_0.out⟩, ⟨by (with_reducible repeat (first | apply Kd.R_alloc | apply Kd.R_drewN | apply Kd.R_drew)); exact HO145.out⟩, ⟨by (with_reducible repeat (first | apply Kd.V_alloc | apply Kd.V_drewN | apply Kd.V_drew)); exact HO150.out⟩, ⟨by repeat (first | (with_reducible first | exact HB.out | apply below_alloc | apply pw_below_drewN | apply below_drew1) | exact HB.out)⟩⟩
                                  · rw [if_neg c24] at H
                                    have c24b0 : decide (0 < (y146.length : Int)) = false := decide_eq_false c24
                                    have c24b1 : decide (0 < y146.length) = false := decide_eq_false (by omega)
                                    clear c24
                                    have H' := Aside0.mk H
                                    clear H
                                    have q34 : ((ji21) : Int) ≤ ((x5_2.length : Int) : Int) := of_decide_eq_true (by first | (with_reducible assumption) | assumption)
                                    obtain ⟨i034, hi034, _, hsz34, _⟩ := info_parts info5
                                    have hroom34 : x5_2.length ≤ co15 := (Kd.V_reads' HO_5.out).2.1
                                    have hC34 : Kd.F (Kd.int .u8) _ _ (some ad137) x5_2.length x5_2 := (Kd.V_at (base := w.heap.size) HO_5.out).2.2
                                    have ql34 : (1 : Int) ≤ ((ji21) : Int) := of_decide_eq_true (by first | (with_reducible assumption) | assumption)
                                    have hcut34 := cut_mid (P := Try.prog) 22 5 .i64 .i64 Try.underlying22 hi034 1 hsz34 (some ad137) x5_2.length co15 1 (ji21) (by omega) ql34 q34 hroom34
                                    have hr34 := Kd.F_mid (lo := (1 : Int).toNat) (hi := ((ji21) : Int).toNat) (c := co15) hC34 (by omega) (by omega) hroom34
                                    obtain ⟨A34, hA34⟩ : ∃ A1, A1 = (if co15 = (1 : Int).toNat then (some ad137) else ((some ad137) : Option Addr).map (·.add ((1 : Int).toNat * 1))) := ⟨_, rfl⟩
                                    obtain ⟨c34, hc34⟩ : ∃ c1, c1 = co15 - (1 : Int).toNat := ⟨_, rfl⟩
                                    have hy34 : y138.length = ((ji21) : Int).toNat - (1 : Int).toNat := (by rw [Ny138.out, List.length_drop, List.length_take] <;> omega)
                                    rw [show ((x5_2).take ((ji21) : Int).toNat).drop (1 : Int).toNat = y138 from Ny138.out.symm] at hr34
                                    replace hr34 : Kd.F (Kd.int .u8) _ _ A34 y138.length y138 := (by rw [hA34]; exact hr34)
                                    rw [← hy34, ← hA34, ← hc34] at hcut34
                                    have HO142 := Aside0.mk (show Kd.V (Kd.int .u8) 5 _ w.heap.size _ (.slice A34 y138.length c34) y138 from Kd.V_mk (by rw [hy34, hc34]; exact Nat.sub_le_sub_right (Nat.le_trans (by omega) hroom34) _) hr34)
                                    have HC142 := Aside0.mk (show y138.length ≤ c34 from by rw [hy34, hc34]; exact Nat.sub_le_sub_right (Nat.le_trans (by omega) hroom34) _)
                                    clear hr34 hC34 hroom34 hi034 hsz34 hc34
                                    have KY34 := Aside0.mk hy34
                                    have KA34 := Aside0.mk hA34
                                    clear hy34 hA34
                                    replace q34 := eq_true q34
                                    go_wp2_with (first | ((with_reducible refine gate_builtin (b := .append) (xs := #[.tmp 40, .tmp 44]) rfl ?_); (try (refine gate_guard (by rfl) ?_; dsimp only)); at_builtin; refine Kd.R_append_rows (Kd.int .u8) (w0 := w) w.heap.size rfl (.tmp 40) (.tmp 44) 22 5 (.int .u8 0) 1 rfl Try.underlying22 info5 rfl (by decide) (by omega) u4 x4_2 y138 _ _ _ (fun k_ => (w.heap.size ≤ k_)) (fun _ => False) rfl rfl ?aO ?aR (fun _ _ h => h) (fun _ h => h.elim) ?aF ?aB ?aS ?aL ?_; (case aR => repeat (first | exact (Kd.V_reads' HO142.out).2.2 | (with_reducible refine Kd.C_alloc ?_ _) | (with_reducible refine Kd.C_drewN ?_ _) | (with_reducible refine Kd.C_drew ?_))); (case aB => exact (by repeat (first | (with_reducible first | exact HB.out | apply below_alloc | apply pw_below_drewN | apply below_drew1) | exact HB.out))); (case aF => exact (fun k_ hk => (Nat.le_trans (below_size (by repeat (first | (with_reducible first | exact HB.out | apply below_alloc | apply pw_below_drewN | apply below_drew1) | exact HB.out))) hk))); (case aO => exact (by (with_reducible repeat (first | apply Kd.R_alloc | apply Kd.R_drewN | apply Kd.R_drew)); exact HO_4.out)); (case aS => exact (below_size (by repeat (first | (with_reducible first | exact HB.out | apply below_alloc | apply pw_below_drewN | apply below_drew1) | exact HB.out)))); (case aL => have := LMc20.out; omega); intro v144 w35 ho hb hg hat; rw [← Ny143.out] at ho; have n0_ := Aside0.mk (Kd.V_afterv (ok := (fun k_ => (P0_ k_ ∨ w.heap.size ≤ k_))) (by (with_reducible repeat (first | apply Kd.V_alloc | apply Kd.V_drewN | apply Kd.V_drew)); exact HO_0.out) hg hat); have n1_ := Aside0.mk (Kd.V_afterv (ok := (fun k_ => (P0_ k_ ∨ w.heap.size ≤ k_))) (by (with_reducible repeat (first | apply Kd.V_alloc | apply Kd.V_drewN | apply Kd.V_drew)); exact HO_5.out) hg hat); have n2_ := Aside0.mk (Kd.V_afterv (ok := (fun k_ => (P0_ k_ ∨ w.heap.size ≤ k_))) (by (with_reducible repeat (first | apply Kd.V_alloc | apply Kd.V_drewN | apply Kd.V_drew)); exact HO142.out) hg hat); have n3_ := Aside0.mk (hb); have n4_ := Aside0.mk (ho); clear HO_0; clear HO_5; clear HO142; clear HB; clear HO_4; have HO_0 := n0_; have HO_5 := n1_; have HO142 := n2_; have HB := n3_; have HO145 := n4_; clear n0_ n1_ n2_ n3_ n4_; clear ho hb hg hat; have q36 : ((ji21) : Int) ≤ ((x5_2.length : Int) : Int) := of_decide_eq_true (by first | (with_reducible assumption) | assumption); obtain ⟨i036, hi036, _, hsz36, _⟩ := info_parts info5; have hroom36 : x5_2.length ≤ co15 := (Kd.V_reads' HO_5.out).2.1; have hC36 : Kd.F (Kd.int .u8) _ _ (some ad137) x5_2.length x5_2 := (Kd.V_at (base := w.heap.size) HO_5.out).2.2; have q036 : (0 : Int) ≤ ((ji21) : Int) := of_decide_eq_true (by first | (with_reducible assumption) | assumption); have hcut36 := cut_from (P := Try.prog) 22 5 .i64 Try.underlying22 hi036 1 hsz36 (some ad137) x5_2.length co15 (ji21) q036 q36; have hr36 := Kd.F_cut (m := ((ji21) : Int).toNat) (c := co15) hC36 (by omega) hroom36; obtain ⟨A36, hA36⟩ : ∃ A1, A1 = (if co15 = ((ji21) : Int).toNat then (some ad137) else ((some ad137) : Option Addr).map (·.add (((ji21) : Int).toNat * 1))) := ⟨_, rfl⟩; obtain ⟨c36, hc36⟩ : ∃ c1, c1 = co15 - ((ji21) : Int).toNat := ⟨_, rfl⟩; have hy36 : y146.length = x5_2.length - ((ji21) : Int).toNat := (by rw [Ny146.out, List.length_drop] <;> omega); rw [show (x5_2).drop ((ji21) : Int).toNat = y146 from Ny146.out.symm] at hr36; replace hr36 : Kd.F (Kd.int .u8) _ _ A36 y146.length y146 := (by rw [hA36]; exact hr36); rw [← hy36, ← hA36, ← hc36] at hcut36; have HO150 := Aside0.mk (show Kd.V (Kd.int .u8) 5 _ w.heap.size _ (.slice A36 y146.length c36) y146 from Kd.V_mk (by rw [hy36, hc36]; exact Nat.sub_le_sub_right hroom36 _) hr36); have HC150 := Aside0.mk (show y146.length ≤ c36 from by rw [hy36, hc36]; exact Nat.sub_le_sub_right hroom36 _); clear hr36 hC36 hroom36 hi036 hsz36 hc36; have KY36 := Aside0.mk hy36; have KA36 := Aside0.mk hA36; clear hy36 hA36; replace q36 := eq_true q36))
                                    go_roundg kj13
                                    case measure => have := HJ1.out; have := HK2.out; have := HJ13.out; omega
                                    case rel => exact ⟨(y143), (y146), H', ⟨by have := HJ1.out; have := HK2.out; have := HJ13.out; omega⟩, ⟨by (with_reducible repeat (first | apply Kd.V_alloc | apply Kd.V_drewN | apply Kd.V_drew)); exact HO_0.out⟩, ⟨by (with_reducible repeat (first | apply Kd.R_alloc | apply Kd.R_drewN | apply Kd.R_drew)); exact HO145.out⟩, ⟨by (with_reducible repeat (first | apply Kd.V_alloc | apply Kd.V_drewN | apply Kd.V_drew)); exact HO150.out⟩, ⟨by repeat (first | (with_reducible first | exact HB.out | apply below_alloc | apply pw_below_drewN | apply below_drew1) | exact HB.out)⟩⟩
                                · rw [if_neg c22] at H
                                  exact absurd H (by simp)
                              · rw [if_neg c20] at H
                                exact absurd H (by simp)
                            · rw [if_neg c19] at H
                              exact absurd H (by simp)
                          · rw [if_neg c18] at H
                            exact absurd H (by simp)
                  · rw [if_neg c13] at H
                    exact absurd H (by simp)
                · rw [if_neg c12] at H
                  have c12b0 : decide (0 < (x5_2.length : Int)) = false := decide_eq_false c12
                  have c12b1 : decide (0 < x5_2.length) = false := decide_eq_false (by omega)
                  clear c12
                  replace H := Option.bind_eq_some_iff.mp H
                  obtain ⟨t154, A370, H⟩ := H
                  replace H : ((bytes_Equal.f t154 l0).bind fun t157 => (if t157 = true then (some (x4_2, 0)) else (some (([] : List Int), 2)))) = some (r1, r2) := H
                  have A37 := Aside0.mk A370
                  clear A370
                  replace H := Option.bind_eq_some_iff.mp H
                  obtain ⟨t157, A380, H⟩ := H
                  replace H : (if t157 = true then (some (x4_2, 0)) else (some (([] : List Int), 2))) = some (r1, r2) := H
                  have A38 := Aside0.mk A380
                  clear A380
                  by_cases c39 : t157 = true
                  · subst c39
                    have H1 : (some (x4_2, 0)) = some (r1, r2) := by rw [if_pos rfl] at H; exact H
                    clear H
                    have H := H1
                    clear H1
                    simp only [Option.some.injEq, Prod.mk.injEq] at H
                    obtain ⟨rfl, rfl⟩ := H
                    obtain ⟨Ao40, co40, eo40⟩ := Kd.V_slice HO_5.out
                    subst eo40
                    obtain ⟨Ao41, co41, eo41⟩ := Kd.R_slice HO_4.out
                    subst eo41
                    go_wp2_with (first | ((with_reducible refine gate_callee (f := 13) rfl ?_); refine goesL_ (some 61) rfl rfl Try.func13 (by kernel_rfl) rfl #[.slice Ao41 x4_2.length co41] rfl (by (try simp only [List.map_toArray, List.map_cons, List.map_nil]); first | done | rfl | (simp only [List.length_drop, List.length_take]; rfl)) ?_; (with_reducible refine (cobs_Encode.calls k2 (fun k_ => some k_ = (.slice Ao41 x4_2.length co41 : Value).ownBlock) _ _ x4_2 t154 _ ?side1 A37.out).mono ?_); (case side1 => exact Kd.R_V (Kd.R_tight rfl (HO_4.out))); rintro e w42 ⟨v155, rfl, ho0, hb⟩; refine ⟨_, rfl, ?_⟩; have n0_ := Aside0.mk (Kd.V_elder' (by (with_reducible repeat (first | apply Kd.V_alloc | apply Kd.V_drewN | apply Kd.V_drew)); exact HO_0.out) (Kd.R_base ho0) hb); have n1_ := Aside0.mk (Kd.R_elder' (by (with_reducible repeat (first | apply Kd.R_alloc | apply Kd.R_drewN | apply Kd.R_drew)); exact HO_4.out) (Kd.R_base ho0) hb); have n2_ := Aside0.mk (Kd.V_elder' (by (with_reducible repeat (first | apply Kd.V_alloc | apply Kd.V_drewN | apply Kd.V_drew)); exact HO_5.out) (Kd.R_base ho0) hb); have n3_ := Aside0.mk (Kd.R_lower (Kd.R_new' (Kd.R_newM (M := fun k_ => (w.heap.size ≤ k_)) (Kd.R_mono (ok' := fun k_ => True) ho0 (fun _ hk_ => trivial)) (below_size (by repeat (first | (with_reducible first | exact HB.out | apply below_alloc | apply pw_below_drewN | apply below_drew1) | exact HB.out))) (fun k_ h_ => h_)) (Kd.R_lt (by (with_reducible repeat (first | apply Kd.R_alloc | apply Kd.R_drewN | apply Kd.R_drew)); exact HO_4.out))) (below_size (by repeat (first | (with_reducible first | exact HB.out | apply below_alloc | apply pw_below_drewN | apply below_drew1) | exact HB.out)))); have n4_ := Aside0.mk (below_step (by repeat (first | (with_reducible first | exact HB.out | apply below_alloc | apply pw_below_drewN | apply below_drew1) | exact HB.out)) hb); clear HO_0; clear HO_4; clear HO_5; clear HB; have HO_0 := n0_; have HO_4 := n1_; have HO_5 := n2_; have HO156 := n3_; have HB := n4_; clear n0_ n1_ n2_ n3_ n4_; (try clear hb); (try clear hb2); (try clear hk); (try clear hi); (try clear ho0); obtain ⟨Ao43, co43, eo43⟩ := Kd.R_slice HO156.out; subst eo43) | ((with_reducible refine gate_callee (f := 25) rfl ?_); refine goesL_ (some 63) rfl rfl Try.func25 (by kernel_rfl) rfl #[.slice Ao43 t154.length co43, .slice A0 l0.length c0] rfl (by (try simp only [List.map_toArray, List.map_cons, List.map_nil]); first | done | rfl | (simp only [List.length_drop, List.length_take]; rfl)) ?_; (with_reducible refine (bytes_Equal.calls _ _ t154 _ _ l0 true _ ?side1 ?side2 ?side3 ?side4 A38.out).mono ?_); (case side1 => repeat (first | exact (Kd.R_reads' HO156.out).2.2 | (with_reducible refine Kd.C_alloc ?_ _) | (with_reducible refine Kd.C_drewN ?_ _) | (with_reducible refine Kd.C_drew ?_))); (case side2 => exact (Kd.R_reads' HO156.out).2.1); (case side3 => repeat (first | exact (Kd.V_reads' HO_0.out).2.2 | (with_reducible refine Kd.C_alloc ?_ _) | (with_reducible refine Kd.C_drewN ?_ _) | (with_reducible refine Kd.C_drew ?_))); (case side4 => exact (Kd.V_reads' HO_0.out).2.1); rintro e w' ⟨rfl, ⟨nd, rfl⟩⟩; refine ⟨_, rfl, ?_⟩))
                    go_ret2
                    exact ⟨_, by first | rfl | (simp [errW_none, errW_some] <;> rfl) | (simp only [← hji8]; first | rfl | (simp [errW_none, errW_some] <;> rfl)) | (simp [*, errW_none, errW_some] <;> rfl), by (with_reducible repeat (first | apply Kd.R_alloc | apply Kd.R_drewN | apply Kd.R_drew)); exact Kd.R_mono HO_4.out (fun _ hk => hk.1), by repeat (first | (with_reducible first | exact HB.out | apply below_alloc | apply pw_below_drewN | apply below_drew1) | exact HB.out)⟩
                  · replace c39 := Bool.eq_false_iff.mpr c39
                    subst c39
                    have H1 : (some (([] : List Int), 2)) = some (r1, r2) := by rw [if_neg (show ¬ (false = true) by decide)] at H; exact H
                    clear H
                    have H := H1
                    clear H1
                    simp only [Option.some.injEq, Prod.mk.injEq] at H
                    obtain ⟨rfl, rfl⟩ := H
                    obtain ⟨Ao44, co44, eo44⟩ := Kd.V_slice HO_5.out
                    subst eo44
                    obtain ⟨Ao45, co45, eo45⟩ := Kd.R_slice HO_4.out
                    subst eo45
                    go_wp2_with (first | ((with_reducible refine gate_callee (f := 13) rfl ?_); refine goesL_ (some 61) rfl rfl Try.func13 (by kernel_rfl) rfl #[.slice Ao45 x4_2.length co45] rfl (by (try simp only [List.map_toArray, List.map_cons, List.map_nil]); first | done | rfl | (simp only [List.length_drop, List.length_take]; rfl)) ?_; (with_reducible refine (cobs_Encode.calls k2 (fun k_ => some k_ = (.slice Ao45 x4_2.length co45 : Value).ownBlock) _ _ x4_2 t154 _ ?side1 A37.out).mono ?_); (case side1 => exact Kd.R_V (Kd.R_tight rfl (HO_4.out))); rintro e w46 ⟨v155, rfl, ho0, hb⟩; refine ⟨_, rfl, ?_⟩; have n0_ := Aside0.mk (Kd.V_elder' (by (with_reducible repeat (first | apply Kd.V_alloc | apply Kd.V_drewN | apply Kd.V_drew)); exact HO_0.out) (Kd.R_base ho0) hb); have n1_ := Aside0.mk (Kd.R_elder' (by (with_reducible repeat (first | apply Kd.R_alloc | apply Kd.R_drewN | apply Kd.R_drew)); exact HO_4.out) (Kd.R_base ho0) hb); have n2_ := Aside0.mk (Kd.V_elder' (by (with_reducible repeat (first | apply Kd.V_alloc | apply Kd.V_drewN | apply Kd.V_drew)); exact HO_5.out) (Kd.R_base ho0) hb); have n3_ := Aside0.mk (Kd.R_lower (Kd.R_new' (Kd.R_newM (M := fun k_ => (w.heap.size ≤ k_)) (Kd.R_mono (ok' := fun k_ => True) ho0 (fun _ hk_ => trivial)) (below_size (by repeat (first | (with_reducible first | exact HB.out | apply below_alloc | apply pw_below_drewN | apply below_drew1) | exact HB.out))) (fun k_ h_ => h_)) (Kd.R_lt (by (with_reducible repeat (first | apply Kd.R_alloc | apply Kd.R_drewN | apply Kd.R_drew)); exact HO_4.out))) (below_size (by repeat (first | (with_reducible first | exact HB.out | apply below_alloc | apply pw_below_drewN | apply below_drew1) | exact HB.out)))); have n4_ := Aside0.mk (below_step (by repeat (first | (with_reducible first | exact HB.out | apply below_alloc | apply pw_below_drewN | apply below_drew1) | exact HB.out)) hb); clear HO_0; clear HO_4; clear HO_5; clear HB; have HO_0 := n0_; have HO_4 := n1_; have HO_5 := n2_; have HO156 := n3_; have HB := n4_; clear n0_ n1_ n2_ n3_ n4_; (try clear hb); (try clear hb2); (try clear hk); (try clear hi); (try clear ho0); obtain ⟨Ao47, co47, eo47⟩ := Kd.R_slice HO156.out; subst eo47) | ((with_reducible refine gate_callee (f := 25) rfl ?_); refine goesL_ (some 63) rfl rfl Try.func25 (by kernel_rfl) rfl #[.slice Ao47 t154.length co47, .slice A0 l0.length c0] rfl (by (try simp only [List.map_toArray, List.map_cons, List.map_nil]); first | done | rfl | (simp only [List.length_drop, List.length_take]; rfl)) ?_; (with_reducible refine (bytes_Equal.calls _ _ t154 _ _ l0 false _ ?side1 ?side2 ?side3 ?side4 A38.out).mono ?_); (case side1 => repeat (first | exact (Kd.R_reads' HO156.out).2.2 | (with_reducible refine Kd.C_alloc ?_ _) | (with_reducible refine Kd.C_drewN ?_ _) | (with_reducible refine Kd.C_drew ?_))); (case side2 => exact (Kd.R_reads' HO156.out).2.1); (case side3 => repeat (first | exact (Kd.V_reads' HO_0.out).2.2 | (with_reducible refine Kd.C_alloc ?_ _) | (with_reducible refine Kd.C_drewN ?_ _) | (with_reducible refine Kd.C_drew ?_))); (case side4 => exact (Kd.V_reads' HO_0.out).2.1); rintro e w' ⟨rfl, ⟨nd, rfl⟩⟩; refine ⟨_, rfl, ?_⟩))
                    go_ret2
                    exact ⟨_, by first | rfl | (simp [errW_none, errW_some] <;> rfl) | (simp only [← hji8]; first | rfl | (simp [errW_none, errW_some] <;> rfl)) | (simp [*, errW_none, errW_some] <;> rfl), by first | exact Kd.R_nil _ _ _ _ _ | exact Kd.N_nil _ _ _ _ _ | exact Kd.V_nil _ _ _ _ _ | exact Kd.Q_nil _ _ _ _ _ | exact Kd.S_nil _ _ _ _ _, by repeat (first | (with_reducible first | exact HB.out | apply below_alloc | apply pw_below_drewN | apply below_drew1) | exact HB.out)⟩
          · rw [if_neg c10] at H
            exact absurd H (by simp)
        · rw [if_neg c9] at H
          exact absurd H (by simp)

-- NOT PRINTED: function 17 (cobs_NewSplitter)

/-! ### tricklelaw03_wakes: function 11 -/

/-- A literal that was just laid, as what is read. -/
theorem lit_V (xs : List Int) (hm : xs.length ≤ 9223372036854775807) (W : World) (n : Nat) (hn : n = W.heap.size) (base : Nat) :
    Kd.V (Kd.int .u8) 5 (W.alloc (.cells (nums .u8 xs).toArray 5)) base (fun _ => True) (.slice (some ⟨n, 0, none⟩) xs.length xs.length) xs := by
  subst hn
  exact Kd.R_V (base := W.heap.size) (Kd.R_of_own (h1 := fun _ => rfl) (own_lit W W.heap.size 5 .u8 xs (Nat.le_refl _) hm) (fun _ _ => trivial))
theorem lit_C (xs : List Int) (hm : xs.length ≤ 9223372036854775807) (W : World) (n : Nat) (hn : n = W.heap.size) :
    Kd.C (Kd.int .u8) (W.alloc (.cells (nums .u8 xs).toArray 5)) (some ⟨n, 0, none⟩) xs.length xs := Kd.F_now (Kd.V_F (lit_V xs hm W n hn 0))
theorem wk1 : cobs_Decode.f 100 [3, 17, 34, 2, 51, 0] = some ([17, 34, 0, 51], 0) := by decide +kernel
theorem wk2 : cobs_Encode.f 100 [17, 34, 0, 51] = some [3, 17, 34, 2, 51, 0] := by decide +kernel
theorem wk3 : cobs_Encode.f 100 [0] = some [1, 1, 0] := by decide +kernel
theorem wk4 : trickleref03_Same.f [3, 17, 34, 2, 51, 0] [3, 17, 34, 2, 51, 0] = some true := by decide +kernel
theorem wk5 : trickleref03_Same.f [1, 1, 0] [1, 1, 0] = some true := by decide +kernel
theorem wk6 : trickleref03_Same.f [17, 34, 0, 51] [17, 34, 0, 51] = some true := by decide +kernel
set_option maxHeartbeats 400000 in
set_option maxRecDepth 100000 in
theorem cobs_NewSplitter.ok (most : Int) (w : World) (h1 : 1 ≤ most) (h2 : most ≤ 65536) :
    Calls Try.prog 17 #[.int .i64 most] w fun e w' => e = .returned (.tuple #[.pointer (some ⟨w.heap.size, 0, none⟩), .int .i64 0]) ∧ w' = w.alloc (.cells #[.int .i64 most, .slice none 0 0, .int .i64 0] 45) := by
  have c1 : decide (most < 1) = false := decide_eq_false (by omega)
  have c2 : decide (65536 < most) = false := decide_eq_false (by omega)
  go_enter Try.func17, Try.ntmps17
  go_wp2
  go_ret2
  exact ⟨rfl, rfl⟩
set_option maxHeartbeats 400000 in
set_option maxRecDepth 100000 in
theorem cobs_NewSplitter.bad (most : Int) (w : World) (h : most < 1 ∨ 65536 < most) :
    Calls Try.prog 17 #[.int .i64 most] w fun e w' => e = .returned (.tuple #[.pointer none, .int .i64 1]) ∧ w' = w := by
  by_cases h1 : most < 1
  · have c1 : decide (most < 1) = true := decide_eq_true h1
    go_enter Try.func17, Try.ntmps17
    go_wp2
    go_ret2
    exact ⟨rfl, rfl⟩
  · have c1 : decide (most < 1) = false := decide_eq_false h1
    have c2 : decide (65536 < most) = true := decide_eq_true (by omega)
    go_enter Try.func17, Try.ntmps17
    go_wp2
    go_ret2
    exact ⟨rfl, rfl⟩
def tricklelaw03_wakes.f : Option Bool := some true
set_option maxHeartbeats 400000 in
set_option maxRecDepth 100000 in
theorem tricklelaw03_wakes.calls (r : Bool) (w : World) (h : tricklelaw03_wakes.f = some r) :
    Calls Try.prog 11 #[] w fun e w' => e = .returned (.bool r) ∧ Below w.heap.size w w' := by
  obtain rfl := Option.some.inj h
  clear h
  go_enter Try.func11, Try.ntmps11
  go_wp2_with fail
  refine (cobs_Decode.calls 100 (fun _ => True) _ _ [3, 17, 34, 2, 51, 0] _ _ _ (lit_V [3, 17, 34, 2, 51, 0] (by decide) _ _ (by simp) _) wk1).mono ?_
  rintro e w1 ⟨v1, rfl, ho1, hb1⟩
  go_wp2_with fail
  refine (cobs_NewSplitter.ok 9 _ (by decide) (by decide)).mono ?_
  rintro e w2 ⟨rfl, rfl⟩
  have HO1 := Aside0.mk (Kd.R_V (base' := 0) ho1)
  have HB1 := Aside0.mk ((below_alloc (Below.refl w.heap.size w) _).trans (hb1.mono (by simp)))
  clear ho1 hb1
  go_wp2_with fail
  refine (cobs_Encode.calls 100 (fun _ => True) _ _ [17, 34, 0, 51] _ _ (lit_V [17, 34, 0, 51] (by decide) _ _ (by simp) _) wk2).mono ?_
  rintro e w2 ⟨v2, rfl, ho2, hb2⟩
  have HB2 := Aside0.mk (show Below w1.heap.size w1 w2 from ((below_alloc (below_alloc (Below.refl w1.heap.size w1) _) _).trans (hb2.mono (by simp; omega))))
  have HO1b := Aside0.mk (Kd.V_below HO1.out HB2.out)
  obtain ⟨A2, c2, rfl, hl2, hC2⟩ := Kd.R_reads ho2
  have HC2 := Aside0.mk hC2
  have HL2 := Aside0.mk hl2
  clear ho2 hb2 hC2 hl2 HO1
  go_wp2_with fail
  refine (trickleref03_Same.calls _ _ [3, 17, 34, 2, 51, 0] _ _ [3, 17, 34, 2, 51, 0] _ _ (Kd.C_below HC2.out (below_alloc (Below.refl _ _) _)) HL2.out (lit_C [3, 17, 34, 2, 51, 0] (by decide) _ _ (by simp)) (Nat.le_refl _) wk4).mono ?_
  rintro e w3 ⟨rfl, hd3⟩
  have HB3 := Aside0.mk (show Below w2.heap.size w2 w3 from ((below_alloc (Below.refl w2.heap.size w2) _).trans (hd3.below.mono (by simp))))
  clear hd3 HC2 HL2
  go_wp2_with fail
  refine (cobs_Encode.calls 100 (fun _ => True) _ _ [0] _ _ (lit_V [0] (by decide) _ _ (by simp) _) wk3).mono ?_
  rintro e w4 ⟨v4, rfl, ho4, hb4⟩
  have HB4 := Aside0.mk (show Below w3.heap.size w3 w4 from ((below_alloc (Below.refl w3.heap.size w3) _).trans (hb4.mono (by simp))))
  obtain ⟨A4, c4, rfl, hl4, hC4⟩ := Kd.R_reads ho4
  have HC4 := Aside0.mk hC4
  have HL4 := Aside0.mk hl4
  clear ho4 hb4 hC4 hl4
  go_wp2_with fail
  refine (trickleref03_Same.calls _ _ [1, 1, 0] _ _ [1, 1, 0] _ _ (Kd.C_below HC4.out (below_alloc (Below.refl _ _) _)) HL4.out (lit_C [1, 1, 0] (by decide) _ _ (by simp)) (Nat.le_refl _) wk5).mono ?_
  rintro e w5 ⟨rfl, hd5⟩
  have HB5 := Aside0.mk (show Below w4.heap.size w4 w5 from ((below_alloc (Below.refl w4.heap.size w4) _).trans (hd5.below.mono (by simp))))
  clear hd5 HC4 HL4
  have HB15 := Aside0.mk (below_step (below_step (below_step HB2.out HB3.out) HB4.out) HB5.out)
  have HO1c := Aside0.mk (Kd.V_below HO1b.out (below_step (below_step HB3.out HB4.out) HB5.out))
  obtain ⟨A1, c1, rfl, hl1, hF1⟩ := HO1c.out
  have HC1 := Aside0.mk (Kd.F_now hF1)
  have HL1 := Aside0.mk hl1
  clear hl1 hF1 HO1b HO1c HB2 HB3 HB4 HB5
  go_wp2_with fail
  refine (trickleref03_Same.calls _ _ [17, 34, 0, 51] _ _ [17, 34, 0, 51] _ _ (Kd.C_below HC1.out (below_alloc (Below.refl _ _) _)) HL1.out (lit_C [17, 34, 0, 51] (by decide) _ _ (by simp)) (Nat.le_refl _) wk6).mono ?_
  rintro e w6 ⟨rfl, hd6⟩
  have HB6 := Aside0.mk (show Below w5.heap.size w5 w6 from ((below_alloc (Below.refl w5.heap.size w5) _).trans (hd6.below.mono (by simp))))
  clear hd6 HC1 HL1
  go_wp2
  go_ret
  exact ⟨rfl, below_step (below_step HB1.out HB15.out) HB6.out⟩

end Go.Proofs.Ytnlpckkaddpieaa.Pr
