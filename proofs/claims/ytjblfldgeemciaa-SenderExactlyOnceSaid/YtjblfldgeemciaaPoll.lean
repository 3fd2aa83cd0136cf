/-
  Poll of the sender, over every state, every list and every time within the bounds.
-/
import Derived.Test.YtjblfldgeemciaaSd

import Derived.IntWalk
set_option linter.unusedVariables false
namespace Go.Proofs.Ytjblfldgeemciaa.Sd
open Go.RowKit Go.Maps Go.Proofs.YtjblfldgeemciaaW.PrintWords Go.Proofs.YtjblfldgeemciaaW.PrintLast Go.Proofs.Ytjblfldgeemciaa.Pr
/-! ### what is computed -/
def cut (F : Int → Option Int) (a : Int) : Int → Option Int := fun n => if n < a then none else F n
def lim (win a : Int) (len : Nat) : Nat := min len (min win.toNat (2147483648 - a).toNat)
def frm (n v : Int) : S24 := ⟨1, n, [IntKind.u16.wrap v % 256, IntKind.u16.wrap v / 256 % 256]⟩
def outs (F : Int → Option Int) (a retry now : Int) (l : List Int) : Nat → List S24
  | 0 => []
  | k + 1 => if due F retry (a + k) now = true then outs F a retry now l k ++ [frm (a + k) (l.getD k 0)] else outs F a retry now l k
def aft (F : Int → Option Int) (a retry now : Int) (k : Nat) : Int → Option Int := fun n => if a ≤ n ∧ n < a + k ∧ due F retry n now = true then some now else F n
theorem outs_length (F : Int → Option Int) (a retry now : Int) (l : List Int) (k : Nat) : (outs F a retry now l k).length ≤ k := by
  induction k with
  | zero => simp [outs]
  | succ k ih =>
    unfold outs
    split
    · simp
      omega
    · omega
theorem aft_zero (F : Int → Option Int) (a retry now : Int) : aft F a retry now 0 = F := by
  funext n
  unfold aft
  rw [if_neg (by omega)]
theorem due_aft (F : Int → Option Int) (a retry now : Int) (k : Nat) : due (aft F a retry now k) retry (a + k) now = due F retry (a + k) now := by
  have : aft F a retry now k (a + k) = F (a + k) := by
    unfold aft
    rw [if_neg (by omega)]
  unfold due
  rw [this]
theorem aft_step (F : Int → Option Int) (a retry now : Int) (k : Nat) (h : due F retry (a + k) now = true) : (fun m => if m = a + k then some now else aft F a retry now k m) = aft F a retry now (k + 1) := by
  funext m
  unfold aft
  by_cases e : m = a + k
  · subst e
    rw [if_pos rfl, if_pos ⟨by omega, by omega, h⟩]
  · rw [if_neg e]
    by_cases c : a ≤ m ∧ m < a + k ∧ due F retry m now = true
    · rw [if_pos c, if_pos ⟨c.1, by have := c.2.1; omega, c.2.2⟩]
    · rw [if_neg c, if_neg (fun d => c ⟨d.1, by have := d.2.1; omega, d.2.2⟩)]
theorem aft_same (F : Int → Option Int) (a retry now : Int) (k : Nat) (h : due F retry (a + k) now = false) : aft F a retry now k = aft F a retry now (k + 1) := by
  funext m
  unfold aft
  by_cases c : a ≤ m ∧ m < a + k ∧ due F retry m now = true
  · rw [if_pos c, if_pos ⟨c.1, by have := c.2.1; omega, c.2.2⟩]
  · rw [if_neg c, if_neg (fun d => ?_)]
    by_cases e : m = a + k
    · subst e
      rw [h] at d
      exact absurd d.2.2 (by simp)
    · exact c ⟨d.1, by have := d.2.1; omega, d.2.2⟩
theorem u16_range (v : Int) : 0 ≤ IntKind.u16.wrap v ∧ IntKind.u16.wrap v ≤ 65535 := by
  unfold IntKind.wrap
  simp [IntKind.bits, IntKind.signed]
  omega
theorem data_tells (n v : Int) : frame_Data.f 3 n v = some ((frm n v).f0, (frm n v).f1, (frm n v).f2) := by
  obtain ⟨h0, h1⟩ := u16_range v
  unfold frame_Data.f frame_number.f frm
  generalize IntKind.u16.wrap v = x at *
  have e : wrap64 x = x := by unfold wrap64; omega
  have e1 : wrap64 (0 + 1) = 1 := by unfold wrap64; omega
  have e2 : wrap64 (1 + 1) = 2 := by unfold wrap64; omega
  rw [e]
  simp only [frame_number.l0]
  rw [if_pos (by decide), if_pos (by simp), e1, if_pos (by decide), if_pos (by simp), e2, if_neg (by decide)]
  rfl
/-! ### the walk -/
theorem no_map {w : World} {b : Nat} {es : Array MapEntry} {c : Nat} (hb : w.heap[b]? = some (.map es c)) {x : Addr} {v : Value} (hx : w.cell? x = some v) : some x.block ≠ some b := by
  intro e
  injection e with e
  subst e
  unfold World.cell? at hx
  rw [hb] at hx
  simp at hx
theorem Snd.far {w : World} {g b n : Nat} {win retry : Int} {F : Int → Option Int} (h : Snd w g b win retry n F) {x : Addr} {v : Value} (hx : w.cell? x = some v) : some x.block ≠ some b := by
  obtain ⟨D, ⟨es, c, hb, _⟩, _⟩ := h.map
  exact no_map hb hx
def PollPost (g b n : Nat) (win retry a now : Int) (l : List Int) (F : Int → Option Int) (w : World) (e : Ending) (w' : World) : Prop :=
  ∃ v, e = .returned v ∧ k24.R 24 w' w.heap.size (fun _ => True) v (outs (cut F a) a retry now l (lim win a l.length)) ∧ Snd w' g b win retry (n + l.length) (aft (cut F a) a retry now (lim win a l.length)) ∧ w.grownBy w' (some b)
theorem poll_neg (p : Value) (a now : Int) (A : Option Addr) (m c : Nat) (w : World) (ha : a < 0) :
    Calls Try.prog 17 #[p, .int .i64 a, .slice A m c, .int .i64 now] w fun e w' => e = .returned (.slice none 0 0) ∧ w' = w.alloc (.cells #[.int .i64 a] 2) := by
  go_enter Try.func17, Try.ntmps17
  go_wp2
  go_ret
  exact ⟨rfl, rfl⟩
theorem Snd.mono {w : World} {g b n n' : Nat} {win retry : Int} {F : Int → Option Int} (h : Snd w g b win retry n F) (hn : n ≤ n') : Snd w g b win retry n' F := by
  refine ⟨h.blk, ?_⟩
  obtain ⟨D, hD, hR⟩ := h.map
  exact ⟨D, hD.mono hn, hR⟩
theorem info24 : (Try.prog.info? 24).map (fun i => (i.zero, i.size, i.bytes)) = some (some (.agg #[.int .i64 0, .int .i64 0, .slice none 0 0]), 3, 40) := by kernel_rfl
theorem R_mapped {α : Type} {d : Kd α} {e base b : Nat} {W W' : World} {v : Value} {xs : List α} (h : d.R e W base (fun _ => True) v xs) (hg : W.grownBy W' (some b)) (hb : b < base) : d.R e W' base (fun _ => True) v xs :=
  Kd.R_mono (Kd.R_grown (Kd.R_bound h) hg (fun k hk e => by injection e with e; have := hk.2.1; omega)) (fun _ _ => trivial)
theorem due_is (g b n : Nat) (win retry k now : Int) (F : Int → Option Int) (B : Bool) (w : World) (h : Snd w g b win retry n F) (hr : 1 ≤ retry ∧ retry ≤ 1099511627776) (hn : -1099511627776 ≤ now ∧ now ≤ 1099511627776) (hk : -9223372036854775808 ≤ k ∧ k ≤ 9223372036854775807) (hB : due F retry k now = B) :
    Calls Try.prog 27 #[.pointer (some ⟨g, 0, none⟩), .int .i64 k, .int .i64 now] w fun e w' => e = .returned (.bool B) ∧ w' = w := hB ▸ due_any g b n win retry k now F w h hr hn hk
theorem poll_fin {g b n k : Nat} {win retry a now : Int} {l : List Int} {F : Int → Option Int} {w wr w2 : World} {v : Value} (hk : k = lim win a l.length) (HR : k24.R 24 wr w.heap.size (fun _ => True) v (outs (cut F a) a retry now l k)) (HS : Snd wr g b win retry (n + k) (aft (cut F a) a retry now k)) (HG : w.grownBy wr (some b)) (hb : Below wr.heap.size wr w2) :
    PollPost g b n win retry a now l F w (.returned v) w2 := by
  have hkl : k ≤ l.length := by rw [hk]; exact Nat.min_le_left _ _
  subst hk
  exact ⟨v, rfl, Kd.R_below HR hb, (HS.mono (by omega)).below hb, World.grownBy.trans HG (grown_of_below hb (some b))⟩
set_option maxHeartbeats 4000000 in
set_option maxRecDepth 100000 in
theorem poll_any (g b n : Nat) (win retry a now : Int) (A : Option Addr) (c : Nat) (l : List Int) (F : Int → Option Int) (w : World) (h : Snd w g b win retry n F) (hg : good win retry) (hn : -1099511627776 ≤ now ∧ now ≤ 1099511627776) (ha : 0 ≤ a) (ha2 : a ≤ 9223372036854775807)
    (hl : l.length ≤ 1000000) (hnn : n ≤ 1000000000) (hr : Kd.C (Kd.int .i16) w A l.length l) (hc : l.length ≤ c) :
    Calls Try.prog 17 #[.pointer (some ⟨g, 0, none⟩), .int .i64 a, .slice A l.length c, .int .i64 now] w (PollPost g b n win retry a now l F w) := by
  obtain ⟨D, hown, hR⟩ := h.map
  have HS := Aside0.mk h
  have HL := Aside0.mk hr
  have HG := Aside0.mk hg
  have HRd := Aside0.mk hR
  have hltg := h.lt
  have hltb := h.ltb
  have c2 : (w.alloc (.cells #[.int .i64 a] 2)).cell? ⟨g, 2, none⟩ = some (.map (some b)) := (h.alloc _).cell2
  have hca : ¬ a < 0 := by omega
  have HO := Aside0.mk (hown.alloc (.cells #[.int .i64 a] 2))
  clear h hr hg hR hown
  go_enter Try.func17, Try.ntmps17
  go_wp2_with fail
  refine (del_poll a w.heap.size b n D _ HO.out (by rw [World.cell?_alloc_at _ _ _ _ (by simp)]; rfl) (by omega)).mono ?_
  rintro e w1 ⟨rfl, hown1, hgr1⟩
  have G1 := Aside0.mk (World.grownBy.trans (World.grownBy_alloc w (.cells #[.int .i64 a] 2) (some b)) hgr1)
  have S1 : Aside0 (Snd w1 g b win retry n (cut F a)) := ⟨⟨blk_grown (HS.out.alloc (.cells #[.int .i64 a] 2)).blk hgr1 (fun e => HS.out.ne (Option.some.inj e)), ⟨_, hown1, Rd_cut HRd.out a⟩⟩⟩
  have B1 := Aside0.mk (blk_grown (blk_new w (.cells #[.int .i64 a] 2)) hgr1 (by intro e; injection e; omega))
  clear hown1 hgr1 HO HRd c2
  go_wp2
  have hlz : (w1.heap.size) ≥ w.heap.size + 1 := by have := G1.out.size; have := blk_lt B1.out; omega
  go_loopw [9, 23] (fun v i wr => ∃ k : Nat, k ≤ l.length ∧ k ≤ lim win a l.length ∧ i = .int .i64 k ∧ Aside0 (k24.R 24 wr w.heap.size (fun _ => True) v (outs (cut F a) a retry now l k)) ∧ Aside0 (Snd wr g b win retry (n + k) (aft (cut F a) a retry now k)) ∧ Aside0 (wr.heap[w.heap.size]? = some (.cells #[.int .i64 a] 2 (0, 0))) ∧ Aside0 (w.grownBy wr (some b))) (fun _ i _ => l.length - (intOf i).toNat)
  case atStart => exact ⟨0, Nat.zero_le _, Nat.zero_le _, rfl, ⟨Kd.R_nil _ _ _ _ _⟩, ⟨by rw [aft_zero]; exact S1.out⟩, B1, G1⟩
  case round =>
    obtain ⟨k, hk, hkm, rfl, HR', HS', HB', HG'⟩ := hrel
    clear S1 B1 G1 hlz hltb hltg
    by_cases hlt : k < l.length
    · obtain ⟨_, _, hcc⟩ := HL.out
      obtain ⟨ad, had, hcc⟩ := hcc (by omega)
      obtain ⟨cs, _, hK, hcell⟩ := hcc k _ (List.getElem?_eq_getElem hlt)
      have hK' : cs = [.int .i16 l[k]] := hK
      subst hK'
      have hcw : w.cell? (ad.add k) = some (.int .i16 l[k]) := by
        have := hcell 0 _ rfl
        have e1 : k * (Kd.int IntKind.i16).sz + 0 = k := by show k * 1 + 0 = k; omega
        rw [e1] at this
        exact this
      have hcr := HG'.out.cell hcw (HS.out.far hcw)
      have hgd : l.getD k 0 = l[k] := by rw [List.getD_eq_getElem?_getD, List.getElem?_eq_getElem hlt]; rfl
      have HGD := Aside0.mk hgd
      generalize hx : l[k] = x at *
      clear hx hcell hcc hcw hK hgd
      subst had
      have c0 := HS'.out.cell0
      have cb : wr.cell? ⟨w.heap.size, 0, none⟩ = some (.int .i64 a) := (blk_cell HB'.out 0).trans rfl
      by_cases hstop : (k : Int) ≥ win
      · have hd : decide (win ≤ (k : Int)) = true := decide_eq_true hstop
        have HK := Aside0.mk (show k = lim win a l.length by unfold lim at *; have := HG.out.1; omega)
        go_wp2_with fail
        go_quiet (fail)
        go_wp2
        go_ret
        exact poll_fin HK.out HR'.out HS'.out HG'.out (pw_below_drewN (Below.refl _ _) _)
      · have hd : decide (win ≤ (k : Int)) = false := decide_eq_false hstop
        have e1 : IntKind.i64.wrap (2147483647 - (k : Int)) = 2147483647 - (k : Int) := IntWalk.i64_in _ (by omega)
        by_cases hs2 : 2147483647 - (k : Int) < a
        · have hd2 : decide (2147483647 - (k : Int) < a) = true := decide_eq_true hs2
          have HK := Aside0.mk (show k = lim win a l.length by unfold lim at *; omega)
          go_wp2_with fail
          go_quiet ((go_at_call 24; exact Calls.quiet_of_same (last_any _)))
          go_wp2
          go_ret
          exact poll_fin HK.out HR'.out HS'.out HG'.out (pw_below_drewN (Below.refl _ _) _)
        · have hd2 : decide (2147483647 - (k : Int) < a) = false := decide_eq_false hs2
          have HK := Aside0.mk (show k + 1 ≤ lim win a l.length by unfold lim at *; omega)
          go_wp2_with fail
          go_quiet ((go_at_call 24; exact Calls.quiet_of_same (last_any _)))
          obtain ⟨W, hW, hWe⟩ : ∃ W, Below wr.heap.size wr W ∧ W = wr.drewN nq := ⟨_, pw_below_drewN (Below.refl _ _) _, rfl⟩
          have hWsz : wr.heap.size ≤ W.heap.size := hW.size
          have HWR := Aside0.mk (Kd.R_below HR'.out hW)
          have HWS := Aside0.mk (HS'.out.below hW)
          have HWB := Aside0.mk (blk_below HB'.out hW)
          have HWG := Aside0.mk (World.grownBy.trans HG'.out (grown_of_below hW (some b)))
          have cbW : W.cell? ⟨w.heap.size, 0, none⟩ = some (.int .i64 a) := (blk_cell HWB.out 0).trans rfl
          have c2W := HWS.out.cell2
          rw [← hWe]
          clear hWe HR' HS' HB' HG' c0 cb hcr hd hd2 e1 hcc hW
          have hW0 : w.heap.size < W.heap.size := blk_lt HWB.out
          have hbW : b < w.heap.size := HS.out.ltb
          go_wp2_with fail
          have hb1 : -9223372036854775808 ≤ a + (k : Int) ∧ a + (k : Int) ≤ 9223372036854775807 := by omega
          cases hdue : due (cut F a) retry (a + k) now
          · have HD := Aside0.mk hdue
            clear hdue
            refine (due_is g b (n + k) win retry (a + k) now _ false _ HWS.out HG.out.2.2 hn hb1 (by rw [due_aft]; exact HD.out)).mono ?_
            rintro e w3 ⟨rfl, rfl⟩
            go_wp2_with fail
            go_roundw
            case rel => exact ⟨k + 1, by omega, HK.out, by go_num, by unfold outs; rw [HD.out]; exact HWR, by rw [← aft_same _ _ _ _ _ HD.out]; exact ⟨HWS.out.mono (by omega)⟩, HWB, HWG⟩
            case measure => simp [intOf]; omega
          · have HD := Aside0.mk hdue
            clear hdue
            refine (due_is g b (n + k) win retry (a + k) now _ true _ HWS.out HG.out.2.2 hn hb1 (by rw [due_aft]; exact HD.out)).mono ?_
            rintro e w3 ⟨rfl, rfl⟩
            obtain ⟨D2, hown2, hR2⟩ := HWS.out.map
            have hn2 : n + k < maxLen := by unfold maxLen; omega
            have hkey := keyOf_int_mk Try.underlying2 (wf64 (a + k) hb1.1 hb1.2)
            have hval := plainElem_int (H := Unit) Try.underlying2 (wf64 now (by omega) (by omega))
            have HRd2 := Aside0.mk hR2
            clear hR2
            go_wp2_with (first
              | (at_mapUpdate; refine wpList_mapUpdate_own _ rfl _ _ _ 62 rfl 2 2 law2 Try.underlying62 _ b (n + k) D2 rfl hown2 hn2 _ _ _ rfl rfl hkey _ [] hval ?_; intro w4 hown4 hgrow4)
              | fail)
            have R4 := Aside0.mk (R_mapped HWR.out hgrow4 hbW)
            have S4 : Aside0 (Snd w4 g b win retry (n + (k + 1)) (aft (cut F a) a retry now (k + 1))) := ⟨⟨blk_grown HWS.out.blk hgrow4 (fun e => HWS.out.ne (Option.some.inj e)), ⟨_, hown4, by rw [← aft_step _ _ _ _ _ HD.out]; exact Rd_put HRd2.out _ _⟩⟩⟩
            have B4 := Aside0.mk (blk_grown HWB.out hgrow4 (by intro e; injection e; omega))
            have G4 := Aside0.mk (World.grownBy.trans HWG.out hgrow4)
            have hsz4 : w3.heap.size ≤ w4.heap.size := hgrow4.size
            clear hown4 hgrow4 hown2 HRd2 hkey hval cbW c2W HWR HWS HWB HWG
            have hlz : (outs (cut F a) a retry now l k).length ≤ k := outs_length _ _ _ _ _ _
            refine (frame_Data.calls 3 (a + k) x _ _ _ w4 (data_tells (a + k) x)).mono ?_
            rintro e w5 ⟨v2, rfl, ho2, hb5⟩
            have hsz5 : w4.heap.size ≤ w5.heap.size := hb5.size
            have U4 := Aside0.mk (show ∀ q, w4.heap.size ≤ q → True ∧ some q ≠ u9.ownBlock from fun q hq => ⟨trivial, fun he => by
              obtain ⟨inner, ho⟩ := Kd.R_own R4.out
              have := own_lt ho q he.symm
              omega⟩)
            have R5 := Aside0.mk (Kd.R_below R4.out hb5)
            have O5 := Aside0.mk (k24_mkM w5 w.heap.size (fun q => w4.heap.size ≤ q) (frm (a + k) x) (Kd.R_mono (Kd.R_lower (Kd.R_bound ho2) (show w.heap.size ≤ w4.heap.size by omega)) (fun q hq => hq.2.1)))
            have S5 := Aside0.mk (S4.out.below hb5)
            have B5 := Aside0.mk (blk_below B4.out hb5)
            have G5 := Aside0.mk (World.grownBy.trans G4.out (grown_of_below hb5 (some b)))
            clear R4 S4 B4 G4 ho2 hb5
            go_wp2_with (first
              | (at_builtin; refine Kd.R_append k24 (w0 := w5) w.heap.size rfl (.tmp 54) (.tmp 58) 46 24 (.agg #[.int .i64 0, .int .i64 0, .slice none 0 0]) 40 rfl Try.underlying46 info24 rfl (by decide) (by decide) u9 (outs (cut F a) a retry now l k) (frm (a + k) x) [.int .i64 (frm (a + k) x).f0, .int .i64 (frm (a + k) x).f1, v2] (fun _ => True) (fun q => w4.heap.size ≤ q) rfl rfl ?aP ?aK ?aF ?aO ?aB ?aS ?aL ?_)
              | fail)
            case aP => exact O5.out
            case aK => exact U4.out
            case aF => exact fun _ _ => trivial
            case aO => exact R5.out
            case aB => exact Below.refl _ _
            case aS => omega
            case aL => omega
            intro v1 w6 hR6 _ hg6 hat6
            have hne := S5.out.row_ne (v := u9) (e := 24) (by decide) (Kd.R_typed R5.out)
            have S6 := Aside0.mk (S5.out.grown hg6 hne.1 hne.2)
            have B6 := Aside0.mk (blk_grown B5.out hg6 (Kd.R_ne R5.out B5.out (by decide)))
            have G6 := Aside0.mk (G5.out.andThen hg6 (fun j hj => Or.inl (Kd.R_base R5.out j hj)))
            have HR6 : Aside0 (k24.R 24 w6 w.heap.size (fun _ => True) v1 (outs (cut F a) a retry now l (k + 1))) := ⟨by
              unfold outs
              rw [if_pos HD.out, HGD.out]
              exact hR6⟩
            clear hne hg6 hat6 hR6 R5 O5 S5 B5 G5 U4
            go_wp2_with fail
            go_roundw
            case rel => exact ⟨k + 1, by omega, HK.out, by go_num, HR6, S6, B6, G6⟩
            case measure => simp [intOf]; omega
    · have HK := Aside0.mk (show k = lim win a l.length by have : lim win a l.length ≤ l.length := Nat.min_le_left _ _; omega)
      go_wp2
      go_ret
      exact poll_fin HK.out HR'.out HS'.out HG'.out (Below.refl _ _)
end Go.Proofs.Ytjblfldgeemciaa.Sd
