/-
  cmp.Compare and cmp.Or at int.
-/
import Derived.Test.YtmpngoejnmlmbaaGreatLeaf
import Derived.StillTailTactics
import Derived.Deep.RegionHeld3
set_option linter.unusedSimpArgs false
set_option linter.unusedVariables false
namespace Go.Proofs.YtmpngoejnmlmbaaGreat
open Go.RowKit

def cmpI (a b : Int) : Int := if a < b then -1 else if b < a then 1 else 0
def orI : List Int → Int
  | [] => 0
  | x :: l => if x = 0 then orI l else x

theorem isNaN_calls (a : Int) (w : World) : Calls Tryz.prog 119 #[.int .i64 a] w fun e w' => e = .returned (.bool false) ∧ w = w' := by
  go_enter Tryz.func119, Tryz.ntmps119
  go_wp2_with fail
  go_ret
  exact ⟨retb (by simp), rfl⟩

theorem compare_calls (a b : Int) (w : World) : Calls Tryz.prog 91 #[.int .i64 a, .int .i64 b] w fun e w' => e = .returned (.int .i64 (cmpI a b)) ∧ w' = w := by
  go_enter Tryz.func91, Tryz.ntmps91
  go_wp2_with (go_at_call 119; refine (isNaN_calls _ _).mono ?_; rintro e w' ⟨rfl, rfl⟩)
  all_goals (go_ret; refine ⟨reti ?_, rfl⟩; go_light; unfold cmpI; (repeat' split) <;> first | rfl | omega)

theorem orI_zero {l : List Int} (h : ∀ x ∈ l, x = 0) : orI l = 0 := by
  induction l with
  | nil => rfl
  | cons x l ih => rw [orI, if_pos (h x List.mem_cons_self)]; exact ih fun y hy => h y (List.mem_cons_of_mem _ hy)
theorem orI_at {l : List Int} {k : Nat} (hk : k < l.length) (h : ∀ x ∈ l.take k, x = 0) (hne : l[k] ≠ 0) : orI l = l[k] := by
  induction l generalizing k with
  | nil => simp at hk
  | cons x l ih =>
    cases k with
    | zero => simp at hne; simp [orI, hne]
    | succ k =>
      have hx : x = 0 := h x (by simp)
      rw [orI, if_pos hx]
      exact ih (by simpa using hk) (fun y hy => h y (by simp [hy])) (by simpa using hne)

set_option maxHeartbeats 400000 in
theorem or_calls (A : Option Addr) (l : List Int) (n c : Nat) (hn : n = l.length) (w : World) (hl : l.length ≤ 100000) (hr : Rd w A (ints l)) :
    Calls Tryz.prog 58 #[.slice A n c] w fun e w' => e = .returned (.int .i64 (orI l)) ∧ w = w' := by
  subst hn
  go_enter Tryz.func58, Tryz.ntmps58
  go_wp2_with fail
  go_loop [8] (fun i => ∃ k : Nat, k ≤ l.length ∧ i = .int .i64 k ∧ Upto l k (fun x => x = 0)) (fun i => l.length - (intOf i).toNat)
  case atStart => exact ⟨0, Nat.zero_le _, rfl, Upto.zero⟩
  case round =>
    obtain ⟨k, hk, rfl, hup⟩ := hrel
    by_cases hlt : k < l.length
    · obtain ⟨b, off, rfl, hb, hc⟩ := hr (ints_ne hlt)
      have hck := hc k _ (ints_at l k hlt)
      clear hc
      by_cases hz : l[k] = 0
      · have hz' : (l[k] != 0) = false := by simpa using hz
        have HZ := hid hz
        clear hz
        go_wp2_with fail
        go_round
        case rel => exact ⟨k + 1, by omega, by go_num, hup.next hlt (unhid HZ)⟩
        case measure => simp [intOf]; omega
      · have hz' : (l[k] != 0) = true := by simpa using hz
        go_wp2_with fail
        go_ret
        exact ⟨reti (orI_at hlt hup hz).symm, rfl⟩
    · go_wp2_with fail
      go_ret
      exact ⟨reti (orI_zero (hup.all (by omega))).symm, rfl⟩

theorem or3_calls (a b c : Int) (A : Option Addr) (cc : Nat) (w : World) (hr : Rd w A (ints [a, b, c])) :
    Calls Tryz.prog 58 #[.slice A 3 cc] w fun e w' => e = .returned (.int .i64 (orI [a, b, c])) ∧ w = w' := or_calls A [a, b, c] 3 cc rfl w (by simp) hr
theorem or2_calls (a b : Int) (A : Option Addr) (cc : Nat) (w : World) (hr : Rd w A (ints [a, b])) :
    Calls Tryz.prog 58 #[.slice A 2 cc] w fun e w' => e = .returned (.int .i64 (orI [a, b])) ∧ w = w' := or_calls A [a, b] 2 cc rfl w (by simp) hr
theorem rd3 (w : World) (t : TypeId) (a b c : Int) : Rd ((w.alloc (.cells #[.int .i64 a, .int .i64 b, .int .i64 c] t)).drew) (some ⟨w.heap.size, 0, none⟩) (ints [a, b, c]) := fun _ => by
  refine ⟨w.heap.size, 0, rfl, by simp, fun j u hu => ?_⟩
  match j, hu with
  | 0, hu => simp [ints] at hu; subst hu; simp [go_sem]
  | 1, hu => simp [ints] at hu; subst hu; simp [go_sem]
  | 2, hu => simp [ints] at hu; subst hu; simp [go_sem]
theorem rd2 (w : World) (t : TypeId) (a b : Int) : Rd ((w.alloc (.cells #[.int .i64 a, .int .i64 b] t)).drew) (some ⟨w.heap.size, 0, none⟩) (ints [a, b]) := fun _ => by
  refine ⟨w.heap.size, 0, rfl, by simp, fun j u hu => ?_⟩
  match j, hu with
  | 0, hu => simp [ints] at hu; subst hu; simp [go_sem]
  | 1, hu => simp [ints] at hu; subst hu; simp [go_sem]

end Go.Proofs.YtmpngoejnmlmbaaGreat
