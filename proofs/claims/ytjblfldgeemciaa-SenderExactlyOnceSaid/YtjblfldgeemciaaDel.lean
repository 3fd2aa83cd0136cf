/-
  maps.DeleteFunc over the sender's map: whatever the map, what lies below a number goes. It holds for every map that is not nil.
-/
import Derived.Test.YtjblfldgeemciaaPr2
import Derived.Test.YtjblfldgeemciaaSmap
import Derived.Maps.RangeWalk
import Derived.Maps.AppendAt
import Derived.Shelf.SlMaps.DeleteFunc
namespace Go.Proofs.Ytjblfldgeemciaa.Sd
open Go.RowKit Go.Maps Go.Proofs.YtjblfldgeemciaaW.PrintWords
theorem law2 : Keyed Try.prog 2 := int_keyed Try.underlying2
theorem zero2 (w : World) : (zeroValue 2).run Try.prog w = .ok (.int .i64 0) w := by kernel_rfl
set_option maxHeartbeats 400000 in
/-- The closure of Poll. -/
theorem closure26 (k v a : Int) (bx : Nat) (W : World) (hx : W.cell? ⟨bx, 0, none⟩ = some (.int .i64 a)) :
    Calls Try.prog 26 (#[.int .i64 k, .int .i64 v] ++ #[.pointer (some ⟨bx, 0, none⟩)]) W fun e w' => e = .returned (.bool (decide (k < a))) ∧ w' = W := by
  go_enter Try.func26, Try.ntmps26
  go_wp2
  go_ret
  exact ⟨rfl, rfl⟩
set_option maxHeartbeats 4000000 in
set_option maxRecDepth 100000 in
theorem del_any (R : Value → Option (DataW Unit × List MemPlace)) (pd : Lit → DataW Unit → Bool) (g : Nat) (cb : Array Value) (b n : Nat) (D : DataW Unit) (w : World)
    (eg : ∀ args w, (callFunc g args).run Try.prog w = .ok (.enter g args) w) (hown : w.ownsMap Try.prog 2 R b n D)
    (hdel : ∀ (W : World) (key val : Value) (kl : Lit) (yd : DataW Unit) (yp : List MemPlace), w.grownBy W (some b) → keyOf Try.prog 2 key = some kl → R val = some (yd, yp) →
      Calls Try.prog g (#[key, val] ++ cb) W fun e w' => e = .returned (.bool (pd kl yd)) ∧ W.grownBy w' none) :
    Calls Try.prog 25 #[.map (some b), .func (.func g) #[] cb] w fun e w' => e = .returned (.tuple #[]) ∧ w'.ownsMap Try.prog 2 R b n (Lib.deleteFuncD pd D) ∧ w.grownBy w' (some b) := by
  obtain ⟨es0, rfl, hap, hkeys⟩ := hown.entries law2
  have HD : Aside _ := hdel
  clear hdel
  go_enter Try.func25, Try.ntmps25
  go_wp2_with (first
    | (at_range; refine wpList_range_own _ rfl _ 62 rfl 2 2 law2 Try.underlying62 R b n _ rfl hown ?_; intro w0 hrg0 hg0 hs0)
    | go_in)
  go_frame
  go_loopw [8] (fun _ wr => ∃ (left : Lit → Bool) (cnt : Nat), wr.ranges Try.prog 2 R b w.heap.size n (Fk pd es0 left) left cnt ∧ w.grownBy wr (some b))
    (fun _ wr => wr.rangeLeft b w.heap.size)
  case atStart => exact ⟨_, _, by rw [Fk_start hkeys]; exact hrg0, hg0.but _⟩
  case round =>
    obtain ⟨left, cnt, hrg, hgw⟩ := hrel
    go_wp2_with (first
      | (at_next; refine wpList_next_ranges _ rfl _ rfl 2 law2 R id id (fun key _ _ => ⟨key, rfl⟩) (fun v _ _ => ⟨v, rfl⟩) b w.heap.size n _ _ _ rfl hrg ?_ ?_)
      | go_in)
    · intro _ hl0
      go_wp2
      go_end0
      exact ⟨rfl, by rw [← Fk_end hl0]; exact hrg.owns, hgw⟩
    · intro x c kl yd yp w1 cnt1 hkey hlx hv hat hrg1 hlt hg1 hs1 hen
      have hgw1 := hgw.andThen hg1 (fun j hj => by cases hj; exact Or.inl (Nat.le_refl _))
      have hc := HD.out w1 x c kl yd yp hgw1 hkey hv
      have hbl := hrg1.owns.lt
      have hrl := hrg1.lt
      cases hp : pd kl yd <;> rw [hp] at hc
      · go_wp2_with (first
          | (go_at_fn g; refine hc.mono ?_; rintro e w2 ⟨rfl, hg2⟩)
          | go_in)
        have hrg2 := hrg1.kept hg2 (by simp) (by simp)
        go_roundw
        case rel => exact ⟨_, cnt1, by rw [← Fk_stays hap (law2.key hkey) hlx hp hat]; exact hrg2, hgw1.andThen hg2 (fun j hj => by cases hj)⟩
        case measure => rw [hrg2.left_eq, hrg.left_eq]; exact hlt
      · go_wp2_with (first
          | (go_at_fn g; refine hc.mono ?_; rintro e w2 ⟨rfl, hg2⟩; have hrg2 := hrg1.kept hg2 (by simp) (by simp))
          | (at_delete; refine wpList_delete_ranges _ rfl _ _ 62 2 rfl 2 law2 Try.underlying62 R b w.heap.size n _ _ _ rfl hrg2 _ _ rfl hkey ?_; intro w3 cnt3 hrg3 hle hturn; go_frame)
          | go_in)
        rw [strike_twice] at hrg3
        go_roundw
        case rel => exact ⟨_, cnt3, by rw [← Fk_struck hap (law2.key hkey) hlx hp hat]; exact hrg3, (hgw1.andThen hg2 (fun j hj => by cases hj)).andThen hturn.grown (fun j hj => by cases hj; exact Or.inr rfl)⟩
        case measure => rw [hrg3.left_eq, hrg.left_eq]; omega
/-- As Poll calls it: the map cut at a. -/
theorem del_poll (a : Int) (bx b n : Nat) (D : DataW Unit) (w : World) (hown : w.ownsMap Try.prog 2 (plainElem Try.prog 2) b n D) (hx : w.cell? ⟨bx, 0, none⟩ = some (.int .i64 a)) (hne : bx ≠ b) :
    Calls Try.prog 25 #[.map (some b), .func (.func 26) #[] #[.pointer (some ⟨bx, 0, none⟩)]] w fun e w' => e = .returned (.tuple #[]) ∧ w'.ownsMap Try.prog 2 (plainElem Try.prog 2) b n (Lib.deleteFuncD (pdLess a) D) ∧ w.grownBy w' (some b) :=
  del_any (plainElem Try.prog 2) (pdLess a) 26 _ b n D w (enters_of Try.func26 (by kernel_rfl) rfl) hown (fun W key val kl yd yp hg hk hv => by
    obtain ⟨c, rfl, hy, _⟩ := plainElem_int_inv Try.underlying2 hv
    obtain ⟨k, rfl, rfl, _⟩ := keyOf_int_inv Try.underlying2 hk
    exact (closure26 k c a bx W (hg.cell hx (fun e => hne (Option.some.inj e)))).mono fun _ _ ⟨he, hw⟩ => ⟨he, hw ▸ World.grownBy.refl _ _⟩)
end Go.Proofs.Ytjblfldgeemciaa.Sd
