/-
  SenderExactlyOnce: rows cut and joined, Poll with the frames that it makes, what an acknowledgement tells.
-/
import Derived.Test.YtjblfldgeemciaaOnc
import Derived.Test.YtjblfldgeemciaaPollZ
set_option linter.unusedVariables false
namespace Go.Proofs.Ytjblfldgeemciaa.OncRow
open Go.RowKit Go.Maps Go.Proofs.YtjblfldgeemciaaW.PrintWords Go.Proofs.YtjblfldgeemciaaW.PrintLast Go.Proofs.Ytjblfldgeemciaa.Pr Go.Proofs.Ytjblfldgeemciaa.Sd Go.Proofs.Ytjblfldgeemciaa.CallPl Go.Proofs.Ytjblfldgeemciaa.PollZ Go.Proofs.Ytjblfldgeemciaa.Onc
theorem M_rows {α : Type} {d : Kd α} {e base n c : Nat} {ok : Nat → Prop} {w : World} {A : Option Addr} {xs : List α} (h : d.R e w base ok (.slice A n c) xs) : ReadsRow (fun x cs => d.M w base ok x cs) d.sz w A xs.length xs := by
  obtain ⟨A', c', he, hl, hr⟩ := OwnRow.reads h.2
  injection he with h1 h2 h3
  subst h1
  exact hr.imp_ (Below.refl _ _) (fun _ _ hp => d.M_mono (fun k hk => hk.1) hp)
theorem row_take {α : Type} {Rr : α → List Value → Prop} {s : Nat} {w : World} {A : Option Addr} {xs : List α} (m : Nat) (h : ReadsRow Rr s w A xs.length xs) (hm : m ≤ xs.length) : ReadsRow Rr s w A m (xs.take m) := by
  have hl : (xs.take m).length = m := by rw [List.length_take]; omega
  refine ⟨hl, by have := h.2.1; omega, fun hp => ?_⟩
  obtain ⟨ad, e, hc⟩ := h.2.2 (by omega)
  refine ⟨ad, e, fun j p hj => hc j p ?_⟩
  rw [List.getElem?_take] at hj
  split at hj
  · exact hj
  · cases hj
theorem row_drop {α : Type} {Rr : α → List Value → Prop} {s : Nat} {w : World} {A : Option Addr} {xs : List α} {c : Nat} (m : Nat) (h : ReadsRow Rr s w A xs.length xs) (hm : m ≤ xs.length) (hc : xs.length ≤ c) : ReadsRow Rr s w (if c = m then A else A.map (·.add (m * s))) (xs.length - m) (xs.drop m) := by
  have hl : (xs.drop m).length = xs.length - m := List.length_drop
  refine ⟨hl, by have := h.2.1; omega, fun hp => ?_⟩
  obtain ⟨ad, rfl, hcell⟩ := h.2.2 (by omega)
  rw [if_neg (by omega)]
  refine ⟨ad.add (m * s), rfl, fun j p hj => ?_⟩
  rw [List.getElem?_drop] at hj
  obtain ⟨cs, h1, h2, h3⟩ := hcell (m + j) p hj
  refine ⟨cs, h1, h2, fun i u hu => ?_⟩
  rw [Go.Proofs.YtjblfldgeemciaaW.PrintWords.add_add, show m * s + (j * s + i) = (m + j) * s + i by rw [Nat.add_mul]; omega]
  exact h3 i u hu
theorem row_imp {α : Type} {Rr Rr' : α → List Value → Prop} {s : Nat} {w w1 : World} {A : Option Addr} {n : Nat} {xs : List α} (h : ReadsRow Rr s w A n xs) (hb : Below w.heap.size w w1) (hR : ∀ p c, Rr p c → Rr' p c) : ReadsRow Rr' s w1 A n xs := h.imp_ hb hR
def PollFl (g b n' : Nat) (F' : Int → Option Int) (O : List S24) (w : World) (e : Ending) (w' : World) (win : Int) : Prop :=
  ∃ A c, e = .returned (.slice A O.length c) ∧ k24.R 24 w' w.heap.size (fun _ => True) (.slice A O.length c) O ∧ Snd w' g b win 5 n' F' ∧ w.grownBy w' (some b)
theorem poll_fl (g b n : Nat) (win a now : Int) (A : Option Addr) (m c : Nat) (l : List Int) (F F' : Int → Option Int) (O : List S24) (w : World) (h : Snd w g b win 5 n F) (hg : good win 5) (hn : -1099511627776 ≤ now ∧ now ≤ 1099511627776) (ha : 0 ≤ a) (ha2 : a ≤ 9223372036854775807)
    (hl : l.length ≤ 1000000) (hnn : n ≤ 1000000000) (hr : Kd.C (Kd.int .i16) w A l.length l) (hc : l.length ≤ c) (hm : m = l.length) (hO : outs (cut F a) a 5 now l (lim win a l.length) = O) (hF : aft (cut F a) a 5 now (lim win a l.length) = F') :
    Calls Try.prog 17 #[.pointer (some ⟨g, 0, none⟩), .int .i64 a, .slice A m c, .int .i64 now] w (fun e w' => PollFl g b (n + l.length) F' O w e w' win) := by
  subst hm hO hF
  refine (poll_any g b n win 5 a now A c l F w h hg hn ha ha2 hl hnn hr hc).mono ?_
  rintro e w' ⟨v, rfl, hR, hS, hG⟩
  obtain ⟨A', c', rfl, _, _⟩ := Kd.R_reads hR
  exact ⟨A', c', rfl, hR, hS, hG⟩
theorem words_tells (l : List Int) (h : l.length ≤ 1000000) : tricklelaw45_words.f l = some l := by
  unfold tricklelaw45_words.f
  simp only [Option.bind_some, List.length_nil, List.nil_append]
  rw [if_pos (by omega)]
theorem words_at {w : World} {B : Option Addr} {ls : List Int} (h : (Kd.int .i16).C w B ls.length ls) (r : Nat) (hr : r < ls.length) : ∃ bd, B = some bd ∧ w.cell? (bd.add r) = some (.int .i16 (ls.getD r 0)) := by
  obtain ⟨ad, c, e, _, hK, hc⟩ := Kd.C_get h 0 (r : Int) (by omega) (by omega)
  rw [Int.toNat_natCast] at hK hc
  have hK' : c = [.int .i16 (ls.getD r 0)] := hK
  subst hK'
  have := hc 0 _ rfl
  have e1 : r * (Kd.int .i16).sz + 0 = r := by show r * 1 + 0 = r; omega
  rw [e1] at this
  exact ⟨ad, e, this⟩
theorem lim_le (win : Int) (a m : Nat) : lim win (a : Int) m ≤ m := Nat.min_le_left _ _
/-- What an acknowledgement makes of the acknowledged number. -/
theorem ack_next (s : Int) (ac e got : Nat) (h0 : 0 ≤ s) (h1 : s ≤ got) (hac : ac ≤ got) : ∃ (m : Nat) (b5 : Bool), rcv 2 s 0 ac e = ((m : Int), b5) ∧ ac ≤ m ∧ m ≤ got := by
  unfold rcv
  split
  · rename_i h
    exact ⟨s.toNat, true, by rw [Int.toNat_of_nonneg h0], by omega, by omega⟩
  · exact ⟨ac, false, rfl, Nat.le_refl _, hac⟩
theorem FL_app {l : List Int} {a b : List S24} (ha : ∀ y ∈ a, FL l y) (hb : ∀ y ∈ b, FL l y) : ∀ y ∈ a ++ b, FL l y := fun y hy => by
  rcases List.mem_append.1 hy with h | h
  · exact ha y h
  · exact hb y h
theorem FL_cut {l : List Int} {a : List S24} (i : Nat) (ha : ∀ y ∈ a, FL l y) : ∀ y ∈ a.take i ++ a.drop (i + 1), FL l y := FL_app (fun y hy => ha y (List.mem_of_mem_take hy)) (fun y hy => ha y (List.mem_of_mem_drop hy))
theorem cut_len {α : Type} (a : List α) (i : Nat) (h : i < a.length) : (a.take i ++ a.drop (i + 1)).length = a.length - 1 := by
  rw [List.length_append, List.length_take, List.length_drop]
  omega
/-- The two cuts of the flight around one frame. -/
theorem fl_parts {wd : World} {b cf i : Nat} {Af : Option Addr} {fl : List S24} (h : k24.R 24 wd (b + 1) (fun _ => True) (.slice Af fl.length cf) fl) (hi : i < fl.length) : ∃ (A2 : Option Addr) (c2 : Nat),
    (∀ W : World, (Instr.slice 46 (.slice Af fl.length cf) none (some (.int .i64 (i : Int))) none).run Try.prog W = .ok (.slice Af i cf) W) ∧
    (∀ W : World, (Instr.slice 46 (.slice Af fl.length cf) (some (.int .i64 ((i : Int) + 1))) none none).run Try.prog W = .ok (.slice A2 (fl.length - (i + 1)) c2) W) ∧
    ReadsRow (fun x cs => k24.M wd (b + 1) (fun q => q < wd.heap.size) x cs) k24.sz wd Af i (fl.take i) ∧
    ReadsRow (fun x cs => k24.M wd (b + 1) (fun q => q < wd.heap.size) x cs) k24.sz wd A2 (fl.length - (i + 1)) (fl.drop (i + 1)) := by
  obtain ⟨_, hlc, _⟩ := Kd.R_reads' h
  obtain ⟨i24, hi24, hz24⟩ := Option.map_eq_some_iff.1 info24
  simp only [Prod.mk.injEq] at hz24
  have hM := M_rows (Kd.R_mono (Kd.R_bound h) (fun q hq => (hq.2.2.1 : q < wd.heap.size)))
  have h1 := cut_to (P := Try.prog) 46 24 .i64 Try.underlying46 hi24 Af fl.length cf (i : Int) (by omega) (by omega) hlc
  have h2 := cut_from (P := Try.prog) 46 24 .i64 Try.underlying46 hi24 3 hz24.2.1 Af fl.length cf ((i : Int) + 1) (by omega) (by omega)
  have e : ((i : Int) + 1).toNat = i + 1 := by omega
  rw [Int.toNat_natCast] at h1
  rw [e] at h2
  exact ⟨_, _, h1, h2, row_take i hM (by omega), row_drop (i + 1) hM (by omega) hlc⟩
theorem own_next {v v1 : Value} {H W : Nat} (h : v1.ownBlock = v.ownBlock ∨ ∃ b, v1.ownBlock = some b ∧ W ≤ b) (h0 : ∀ q, v.ownBlock = some q → H ≤ q) (hW : H ≤ W) : ∀ q, v1.ownBlock = some q → H ≤ q := by
  intro q hq
  rcases h with h | ⟨q2, h, h3⟩
  · exact h0 q (h.symm.trans hq)
  · rw [hq] at h
    injection h with h
    omega
theorem own_new {v1 : Value} {H : Nat} (h : ∃ b, v1.ownBlock = some b ∧ H ≤ b) : ∀ q, v1.ownBlock = some q → H ≤ q := by
  intro q hq
  obtain ⟨q2, h, h3⟩ := h
  rw [hq] at h
  injection h with h
  omega
theorem grown_new {wd w w1 : World} {row : Option Nat} (hb : Below wd.heap.size wd w) (hg : w.grownBy w1 row) (hr : ∀ k, row = some k → wd.heap.size ≤ k) : Below wd.heap.size wd w1 := hb.grown hg hb.size hr
end Go.Proofs.Ytjblfldgeemciaa.OncRow
