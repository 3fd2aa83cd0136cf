/-
  The fixed examples of the sender's statements are true, in every world.
-/
import Derived.Test.YtjblfldgeemciaaPoll
set_option linter.unusedVariables false
namespace Go.Proofs.Ytjblfldgeemciaa.Sd
open Go.RowKit Go.Maps Go.Proofs.YtjblfldgeemciaaW.PrintWords Go.Proofs.YtjblfldgeemciaaW.PrintLast Go.Proofs.Ytjblfldgeemciaa.Pr
/-- Frames that lie behind the map's block. -/
def FR (w : World) (b : Nat) (v : Value) (O : List S24) : Prop := k24.R 24 w (b + 1) (fun _ => True) v O
theorem FR.mapped {w w' : World} {b : Nat} {v : Value} {O : List S24} (h : FR w b v O) (hg : w.grownBy w' (some b)) : FR w' b v O := R_mapped h hg (by omega)
theorem FR.below {w w' : World} {b : Nat} {v : Value} {O : List S24} (h : FR w b v O) (hb : Below w.heap.size w w') : FR w' b v O := Kd.R_below h hb
theorem FR.alloc {w : World} {b : Nat} {v : Value} {O : List S24} (h : FR w b v O) (o : Obj) : FR (w.alloc o) b v O := h.below (below_alloc (Below.refl _ _) o)
theorem below_poll {w0 w w' : World} {b : Nat} (hB : Below w0.heap.size w0 w) (hg : w.grownBy w' (some b)) (hb : w0.heap.size ≤ b) : Below w0.heap.size w0 w' :=
  pw_below_grown hB (some b) hB.size hg (fun k hk => by injection hk; omega)
/-- What Poll hands back, told by a list. -/
def PollTo (g b n' : Nat) (win retry : Int) (F' : Int → Option Int) (O : List S24) (w : World) (e : Ending) (w' : World) : Prop :=
  ∃ A c, e = .returned (.slice A O.length c) ∧ FR w' b (.slice A O.length c) O ∧ Snd w' g b win retry n' F' ∧ w.grownBy w' (some b)
theorem poll_to (g b n : Nat) (win retry a now : Int) (A : Option Addr) (m c : Nat) (l : List Int) (F F' : Int → Option Int) (O : List S24) (w : World) (h : Snd w g b win retry n F) (hg : good win retry) (hn : -1099511627776 ≤ now ∧ now ≤ 1099511627776) (ha : 0 ≤ a) (ha2 : a ≤ 9223372036854775807)
    (hl : l.length ≤ 1000000) (hnn : n ≤ 1000000000) (hr : Kd.C (Kd.int .i16) w A l.length l) (hc : l.length ≤ c) (hm : m = l.length) (hO : outs (cut F a) a retry now l (lim win a l.length) = O) (hF : aft (cut F a) a retry now (lim win a l.length) = F') :
    Calls Try.prog 17 #[.pointer (some ⟨g, 0, none⟩), .int .i64 a, .slice A m c, .int .i64 now] w (PollTo g b (n + l.length) win retry F' O w) := by
  subst hm hO hF
  refine (poll_any g b n win retry a now A c l F w h hg hn ha ha2 hl hnn hr hc).mono ?_
  rintro e w' ⟨v, rfl, hR, hS, hG⟩
  obtain ⟨A', c', rfl, _, _⟩ := Kd.R_reads hR
  exact ⟨A', c', rfl, Kd.R_lower hR h.ltb, hS, hG⟩
/-- A list of words that was just laid. -/
theorem lit_C (xs : List Int) (hm : xs.length ≤ 9223372036854775807) (W : World) (n : Nat) (hn : n = W.heap.size) :
    Kd.C (Kd.int .i16) (W.alloc (.cells (nums .i16 xs).toArray 49)) (some ⟨n, 0, none⟩) xs.length xs := by
  subst hn
  exact (Kd.R_reads' (Kd.R_of_own (h1 := fun _ => rfl) (own_lit W W.heap.size 49 .i16 xs (Nat.le_refl _) hm) (fun _ _ => trivial))).2.2
theorem frames_cells {w : World} {base c : Nat} {ok : Nat → Prop} {A : Option Addr} {O : List S24} (h : k24.R 24 w base ok (.slice A O.length c) O) (h0 : 0 < O.length) :
    ∃ g, A = some ⟨g, 0, none⟩ ∧ ∀ i : Nat, i < O.length → w.cell? ⟨g, i * 3, none⟩ = some (.int .i64 (rd_T24 O i).f0) ∧ w.cell? ⟨g, i * 3 + 1, none⟩ = some (.int .i64 (rd_T24 O i).f1) := by
  obtain ⟨inner, ho⟩ := Kd.R_own h
  obtain ⟨g, cap, he, _⟩ := ho.form h0
  injection he with hA
  subst hA
  refine ⟨g, rfl, fun i hi => ?_⟩
  obtain ⟨ad, A2, c2, e, h1, h2, _⟩ := at_T24 (Kd.R_reads' h).2.2 (i : Int) (by omega) (by omega)
  injection e with e
  subst e
  rw [add_plain] at h1 h2
  exact ⟨h1, h2⟩
def E0 : Int → Option Int := fun _ => none
def E1 : Int → Option Int := aft (cut E0 0) 0 10 0 2
def E2 : Int → Option Int := aft (cut E1 0) 0 10 9 2
def E3 : Int → Option Int := aft (cut E2 1) 1 10 9 2
theorem x1 : outs (cut E0 0) 0 10 0 [7, 8, 9] (lim 2 0 3) = [frm 0 7, frm 1 8] := by rfl
theorem x2 : outs (cut E1 0) 0 10 9 [7, 8, 9] (lim 2 0 3) = [] := by rfl
theorem x3 : outs (cut E2 1) 1 10 9 [8, 9] (lim 2 1 2) = [frm 2 9] := by rfl
theorem x4 : outs (cut E3 1) 1 10 10 [8, 9] (lim 2 1 2) = [frm 1 8] := by rfl
set_option maxHeartbeats 4000000 in
set_option maxRecDepth 100000 in
theorem examples_any (w : World) : Calls Try.prog 11 #[] w fun e w' => e = .returned (.bool true) ∧ Below w.heap.size w w' := by
  go_enter Try.func11, Try.ntmps11
  go_wp2_with fail
  refine (new_good 2 10 w (by unfold good; omega)).mono ?_
  rintro e w1 ⟨g, b, rfl, hs1, hge, hbe, hb1⟩
  have S1 := Aside0.mk hs1
  have B1 := Aside0.mk hb1
  clear hs1 hb1
  go_wp2_with fail
  refine (new_bad 33 10 w1 (by unfold good; omega)).mono ?_
  rintro e w2 ⟨rfl, rfl⟩
  go_wp2_with fail
  refine (poll_to g b 0 2 10 0 0 _ 3 3 [7, 8, 9] E0 E1 _ _ (S1.out.alloc _) (by unfold good; omega) (by omega) (by omega) (by omega) (by decide) (by omega) (lit_C [7, 8, 9] (by decide) _ _ rfl) (by decide) rfl x1 rfl).mono ?_
  rintro e w3 ⟨Aa, ca, rfl, hRa, hs3, hg3⟩
  have Ra3 := Aside0.mk hRa
  have S3 := Aside0.mk hs3
  have B3 := Aside0.mk (below_poll (below_alloc B1.out _) hg3 hbe)
  clear hRa hs3 hg3 S1 B1
  go_wp2_with fail
  refine (poll_to g b 3 2 10 0 9 _ 3 3 [7, 8, 9] E1 E2 _ _ (S3.out.alloc _) (by unfold good; omega) (by omega) (by omega) (by omega) (by decide) (by omega) (lit_C [7, 8, 9] (by decide) _ _ rfl) (by decide) rfl x2 rfl).mono ?_
  rintro e w4 ⟨Ab, cb, rfl, hRb, hs4, hg4⟩
  have Ra4 := Aside0.mk ((Ra3.out.alloc _).mapped hg4)
  have S4 := Aside0.mk hs4
  have B4 := Aside0.mk (below_poll (below_alloc B3.out _) hg4 hbe)
  clear hRb hs4 hg4 Ra3 S3 B3
  go_wp2_with fail
  refine (receive_any _ 2 1 none 0 0 0 3 w4).mono ?_
  rintro e w5 ⟨rfl, hw5⟩
  have hb5 : Below w4.heap.size w4 w5 := by rw [hw5]; exact below_alloc (Below.refl _ _) _
  have Ra5 := Aside0.mk (Ra4.out.below hb5)
  have S5 := Aside0.mk (S4.out.below hb5)
  have B5 := Aside0.mk (below_step B4.out hb5)
  clear hw5 hb5 Ra4 S4 B4
  go_wp2_with fail
  refine (receive_any _ 2 1 none 0 0 1 3 w5).mono ?_
  rintro e w6 ⟨rfl, hw6⟩
  have hb6 : Below w5.heap.size w5 w6 := by rw [hw6]; exact below_alloc (Below.refl _ _) _
  have Ra6 := Aside0.mk (Ra5.out.below hb6)
  have S6 := Aside0.mk (S5.out.below hb6)
  have B6 := Aside0.mk (below_step B5.out hb6)
  clear hw6 hb6 Ra5 S5 B5
  go_wp2_with fail
  refine (poll_to g b 6 2 10 1 9 _ 2 2 [8, 9] E2 E3 _ _ (S6.out.alloc _) (by unfold good; omega) (by omega) (by omega) (by omega) (by decide) (by omega) (lit_C [8, 9] (by decide) _ _ rfl) (by decide) rfl x3 rfl).mono ?_
  rintro e w7 ⟨Ac, cc, rfl, hRc, hs7, hg7⟩
  have Ra7 := Aside0.mk ((Ra6.out.alloc _).mapped hg7)
  have Rc7 := Aside0.mk hRc
  have S7 := Aside0.mk hs7
  have B7 := Aside0.mk (below_poll (below_alloc B6.out _) hg7 hbe)
  clear hRc hs7 hg7 Ra6 S6 B6
  go_wp2_with fail
  refine (poll_to g b 8 2 10 1 10 _ 2 2 [8, 9] E3 _ _ _ (S7.out.alloc _) (by unfold good; omega) (by omega) (by omega) (by omega) (by decide) (by omega) (lit_C [8, 9] (by decide) _ _ rfl) (by decide) rfl x4 rfl).mono ?_
  rintro e w8 ⟨Ad, cd, rfl, hRd, hs8, hg8⟩
  have Ra8 := Aside0.mk ((Ra7.out.alloc _).mapped hg8)
  have Rc8 := Aside0.mk ((Rc7.out.alloc _).mapped hg8)
  have B8 := Aside0.mk (below_poll (below_alloc B7.out _) hg8 hbe)
  obtain ⟨ga, rfl, fa⟩ := frames_cells Ra8.out (by decide)
  obtain ⟨gc, rfl, fc⟩ := frames_cells Rc8.out (by decide)
  obtain ⟨gd, rfl, fd⟩ := frames_cells hRd (by decide)
  have a0 : w8.cell? ⟨ga, 0, none⟩ = some (.int .i64 1) := (fa 0 (by decide)).1
  have a1 : w8.cell? ⟨ga, 1, none⟩ = some (.int .i64 0) := (fa 0 (by decide)).2
  have a4 : w8.cell? ⟨ga, 4, none⟩ = some (.int .i64 1) := (fa 1 (by decide)).2
  have c1 : w8.cell? ⟨gc, 1, none⟩ = some (.int .i64 2) := (fc 0 (by decide)).2
  have d1 : w8.cell? ⟨gd, 1, none⟩ = some (.int .i64 1) := (fd 0 (by decide)).2
  clear fa fc fd hRd hs8 hg8 Ra7 Rc7 S7 B7
  go_wp2_with (first
    | (go_at_call 24; refine (last_any _).mono ?_; rintro e w9 ⟨rfl, rfl⟩)
    | fail)
  go_ret
  exact ⟨rfl, B8.out⟩
end Go.Proofs.Ytjblfldgeemciaa.Sd
