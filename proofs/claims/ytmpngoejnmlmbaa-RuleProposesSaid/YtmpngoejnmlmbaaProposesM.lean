/-
  The reference's junction. The reference's Propose. SameSigns, of signs without covers. The law RuleProposes.
-/
import Derived.Test.YtmpngoejnmlmbaaAhead
import Derived.Test.YtmpngoejnmlmbaaPropM
import Derived.Deep.RegionHeld3
import Derived.Test.YtmpngoejnmlmbaaHolds2
import Derived.Test.YtmpngoejnmlmbaaRefKit
import Derived.Test.YtmpngoejnmlmbaaCmpK
import Derived.Deep.AppendLies
import Derived.Deep.DeepCutAuto
import Derived.Test.YtmpngoejnmlmbaaAsk8
import Derived.Test.YtmpngoejnmlmbaaHolds
set_option linter.unusedSimpArgs false
set_option linter.unusedVariables false
namespace Go.Proofs.Ytmpngoejnmlmbaa
open Go.RowKit

section
theorem dist_inv {n dir j k : Int} : distI n dir j = k ↔ j = distI n dir k := by
  unfold distI
  by_cases h : dir = 1
  · simp [h]
  · simp [h]; omega

open Classical in
set_option maxHeartbeats 2000000 in
set_option maxRecDepth 100000 in
theorem rjunction_calls (len : Int) (A : Option Addr) (js : List Int) (c : Nat) (dir k : Int) (w : World) (hr : Rd w A (ints js)) (hj : ∀ j ∈ js, 0 ≤ j ∧ j ≤ len) (hlen : len ≤ 100000) (hn : js.length ≤ 1000) :
    Calls Try.prog 80 #[.agg #[.int .i64 len, .slice A js.length c], .int .i64 dir, .int .i64 k] w fun e w' => e = .returned (.bool (decide (distI len dir k ∈ js))) ∧ Below w.heap.size w w' := by
  have HR := hid hr
  have HJ := hid hj
  clear hr hj
  go_enter Try.func80, Try.ntmps80
  go_wp2_with fail
  generalize hW : w.alloc _ = w1
  have hB1 : w.heap.size < w1.heap.size := by rw [← hW]; simp
  have d0 : w1.cell? ⟨w.heap.size, 0, none⟩ = some (.int .i64 len) := by rw [← hW]; simp [go_sem]
  have d1 : w1.cell? ⟨w.heap.size, 1, none⟩ = some (.slice A js.length c) := by rw [← hW]; simp [go_sem]
  have hbw1 : Below w.heap.size w w1 := by rw [← hW]; exact below_alloc _ _
  clear hW
  go_loopw [7] (fun i wr => ∃ q : Nat, q ≤ js.length ∧ i = .int .i64 q ∧ (∀ x ∈ js.take q, ¬ distI len dir x = k) ∧ Below w1.heap.size w1 wr) (fun i _ => js.length - (intOf i).toNat)
  case atStart => exact ⟨0, Nat.zero_le _, rfl, by simp, Below.refl _ _⟩
  case round =>
    obtain ⟨q, hq, rfl, hne, hbel⟩ := hrel
    have HN := hid hne
    clear hne
    have f0 := (hbel.cell (p := ⟨w.heap.size, 0, none⟩) hB1).trans d0
    have f1 := (hbel.cell (p := ⟨w.heap.size, 1, none⟩) hB1).trans d1
    have hBr := Nat.lt_of_lt_of_le hB1 hbel.size
    by_cases hlt : q < js.length
    · obtain ⟨b, off, rfl, hb, hc⟩ := (((unhid HR).below hbw1).below hbel) (ints_ne hlt)
      have c0 := hc q _ (ints_at js q hlt)
      clear hc
      have HM := hid (show js[q] ∈ js from List.getElem_mem _)
      have hjb := unhid HJ _ (unhid HM)
      have HT := hid (show js.take (q + 1) = js.take q ++ [js[q]] from List.take_succ_eq_append_getElem hlt)
      generalize js[q] = x at *
      have KD := hid (fun (W : World) => rdistance_calls len (some ⟨b, off, none⟩) js.length c dir x W hjb.1 hjb.2 hlen)
      generalize hdx : distI len dir x = dx at *
      have HDX := hid hdx
      clear hdx
      by_cases hx : dx = k
      · have hx' : (dx == k) = true := by simpa using hx
        have HX := hid hx
        clear hx
        go_wp2_with fail
        go_region_held3 (fun w' => w'.cell? ⟨w.heap.size, 0, none⟩ = some (.int .i64 len) ∧ w'.cell? ⟨w.heap.size, 1, none⟩ = some (.slice (some ⟨b, off, none⟩) js.length c) ∧ w'.cell? ⟨b, off + q, none⟩ = some (.int .i64 x)) (first | (refine ⟨?_, ?_, ?_⟩ <;> assumption) | go_keep)
          (first
            | (go_at_call 81; refine ((unhid KD) _).mono ?_; rintro e w5 ⟨rfl, rfl⟩))
        go_wp2_with fail
        go_ret
        refine ⟨?_, hbw1.trans (((below_alloc' (Below.drew (Below.refl wr.heap.size wr)) _).mono hbel.size |> hbel.trans).mono hbw1.size)⟩
        exact retb (by simp; rw [← dist_inv.1 ((unhid HDX).trans (unhid HX))]; exact unhid HM)
      · have hx' : (dx == k) = false := by simpa using hx
        have HX := hid hx
        clear hx
        go_wp2_with fail
        go_region_held3 (fun w' => w'.cell? ⟨w.heap.size, 0, none⟩ = some (.int .i64 len) ∧ w'.cell? ⟨w.heap.size, 1, none⟩ = some (.slice (some ⟨b, off, none⟩) js.length c) ∧ w'.cell? ⟨b, off + q, none⟩ = some (.int .i64 x)) (first | (refine ⟨?_, ?_, ?_⟩ <;> assumption) | go_keep)
          (first
            | (go_at_call 81; refine ((unhid KD) _).mono ?_; rintro e w5 ⟨rfl, rfl⟩))
        go_wp2_with fail
        go_roundw
        case rel => exact ⟨q + 1, by omega, by go_num, fun y hy => by
          rw [unhid HT] at hy
          rcases List.mem_append.1 hy with h | h
          · exact unhid HN y h
          · simp at h; subst h; rw [unhid HDX]; exact unhid HX, (below_alloc' (Below.drew (Below.refl wr.heap.size wr)) _).mono hbel.size |> hbel.trans⟩
        case measure => simp [intOf]; omega
    · have hall : ∀ x ∈ js, ¬ distI len dir x = k := fun x hx => unhid HN x (by rw [List.take_of_length_le (by omega)]; exact hx)
      have HNO := hid (show ¬ distI len dir k ∈ js from fun h => hall _ h (dist_inv.2 rfl))
      clear hall
      go_wp2_with fail
      go_ret
      exact ⟨retb (by simp; exact unhid HNO), hbw1.trans (hbel.mono hbw1.size)⟩
end

section
theorem info_sign3 : (Try.prog.info? 34).map (fun i => (i.zero, i.size, i.bytes)) = some (some (.agg #[.int .i64 0, .int .i64 0, .int .i64 0, .int .i64 0, .int .i64 0, .int .i64 0, .int .i64 0, .int .i64 0, .slice none 0 0]), 9, 88) := by kernel_rfl
theorem topI_at' {k j : Nat} (hk : k < 2) (hj : j < 2) : topI (2 * k + j) = ((k + 1 : Nat) : Int) := by
  rcases (show k = 0 ∨ k = 1 by omega) with rfl | rfl <;> rcases (show j = 0 ∨ j = 1 by omega) with rfl | rfl <;> rfl
theorem dirI_at' {k j : Nat} (hk : k < 2) (hj : j < 2) : dirI (2 * k + j) = 1 - 2 * (j : Int) := by
  rcases (show k = 0 ∨ k = 1 by omega) with rfl | rfl <;> rcases (show j = 0 ∨ j = 1 by omega) with rfl | rfl <;> rfl
theorem own_setB {w : World} {base e size n : Nat} {v : Value} {xs : List Value} (h : w.ownsRow base e size v n xs) {g : Nat} (hg : v.ownBlock ≠ some g) (i : Nat) (u : Value) : (w.setCell ⟨g, i, none⟩ u).ownsRow base e size v n xs :=
  h.kept (row := some g) ⟨rfl, rfl, rfl, by simp, fun b hb hne => block_set_other _ _ (fun e => hne (by rw [e]))⟩ (.inr hg)
theorem box3w (w : World) (c1 c2 c3 : Array Value) (t1 t2 t3 : TypeId) :
    (((w.alloc (.cells c1 t1)).alloc (.cells c2 t2)).alloc (.cells c3 t3)).heap[w.heap.size]? = some (.cells c1 t1 (0, 0)) ∧
    (((w.alloc (.cells c1 t1)).alloc (.cells c2 t2)).alloc (.cells c3 t3)).heap[w.heap.size + 1]? = some (.cells c2 t2 (0, 0)) ∧
    (((w.alloc (.cells c1 t1)).alloc (.cells c2 t2)).alloc (.cells c3 t3)).heap[w.heap.size + 2]? = some (.cells c3 t3 (0, 0)) ∧
    Below w.heap.size w (((w.alloc (.cells c1 t1)).alloc (.cells c2 t2)).alloc (.cells c3 t3)) ∧
    (((w.alloc (.cells c1 t1)).alloc (.cells c2 t2)).alloc (.cells c3 t3)).heap.size = w.heap.size + 3 := by
  have s1 : (w.alloc (.cells c1 t1)).heap.size = w.heap.size + 1 := by simp
  have s2 : ((w.alloc (.cells c1 t1)).alloc (.cells c2 t2)).heap.size = w.heap.size + 2 := by simp
  refine ⟨?_, ?_, ?_, below_alloc' (below_alloc' (below_alloc w _) _) _, by simp⟩
  · rw [Below.heap_alloc _ _ _ (by omega), Below.heap_alloc _ _ _ (by omega)]; exact heap_alloc_new w _
  · rw [Below.heap_alloc _ _ _ (by omega), ← s1]; exact heap_alloc_new _ _
  · rw [← s2]; exact heap_alloc_new _ _
theorem alloc2_new (w : World) (c1 c2 : Array Value) (t1 t2 : TypeId) : ((w.alloc (.cells c1 t1)).alloc (.cells c2 t2)).drew.heap[w.heap.size + 1]? = some (.cells c2 t2 (0, 0)) := by
  have h := heap_alloc_new (w.alloc (.cells c1 t1)) (.cells c2 t2)
  rwa [show (w.alloc (.cells c1 t1)).heap.size = w.heap.size + 1 from by simp] at h
theorem alloc2_old (w : World) (c1 c2 : Array Value) (t1 t2 : TypeId) : ((w.alloc (.cells c1 t1)).alloc (.cells c2 t2)).drew.heap[w.heap.size]? = some (.cells c1 t1 (0, 0)) := by
  show ((w.alloc (.cells c1 t1)).alloc (.cells c2 t2)).heap[w.heap.size]? = _
  rw [Below.heap_alloc _ _ _ (by simp)]
  exact heap_alloc_new w (.cells c1 t1)
theorem heap_alloc_at {w : World} {B : Nat} {cs : Array Value} {t : TypeId} (h : w.heap.size = B) : (w.alloc (.cells cs t)).heap[B]? = some (.cells cs t (0, 0)) := h ▸ heap_alloc_new w (.cells cs t)
theorem ppS_same {n : Int} {js must : List Int} {topic dir hour : Int} {st : List Sg × Int} {k : Nat} {nw x : Int} (h1 : nowP n js dir st.2 k = nw) (h2 : must.getD (metreI n dir k).toNat 0 = x) (h3 : x = nw) : ppStep n js must topic dir hour st k = (st.1, nw) := by
  unfold ppStep; rw [h1, h2, if_pos h3]
theorem ppS_push {n : Int} {js must : List Int} {topic dir hour : Int} {st : List Sg × Int} {k : Nat} {nw x : Int} (h1 : nowP n js dir st.2 k = nw) (h2 : must.getD (metreI n dir k).toNat 0 = x) (h3 : ¬ x = nw) : ppStep n js must topic dir hour st k = (st.1 ++ [postS (st.1.length + 1) topic x (distI n dir k) dir hour], x) := by
  unfold ppStep; rw [h1, h2, if_neg h3]

set_option maxHeartbeats 8000000 in
set_option maxRecDepth 100000 in
theorem rpropose_calls (n : Nat) (A : Option Addr) (js : List Int) (c : Nat) (A3 : Option Addr) (ed : List Ed) (c3 : Nat) (hour : Int) (w : World)
    (hl : LnOk w A js) (he : Rd w A3 (edicts ed)) (hv : lineB n js = true) (hl50 : ed.length ≤ 100000000) (hh : 0 ≤ hour ∧ hour ≤ 10000000) :
    Calls Try.prog 39 #[.agg #[.int .i64 n, .slice A js.length c], .slice A3 ed.length c3, .int .i64 hour] w fun e w' =>
      ∃ (A' : Option Addr) (c' : Nat), e = .returned (.tuple #[.slice A' (ppAll n js ed hour 4).length c', .bool (decide ((ppAll n js ed hour 4).length ≤ 100))]) ∧ Rd w' A' (signs (ppAll n js ed hour 4)) ∧ Below w.heap.size w w' := by
  have HL := hid hl.rd
  have HE := hid he
  have HJ := hid (lineB_mem hv)
  have hn := (lineB_len hv).2
  have hj50 : js.length ≤ 50 := by have := hv; simp [lineB, lineP] at this; omega
  clear hl he hv
  obtain ⟨i0, hi, hz0, hz1, hz2⟩ := info_parts info_sign3
  go_enter Try.func39, Try.ntmps39
  go_wp2_with fail
  have HBX := hid (box3w w #[.int .i64 n, .slice A js.length c] #[.int .i64 0, .int .i64 1, .int .i64 3] #[.int .i64 0, .int .i64 2, .int .i64 4] 24 3 3)
  generalize hW : ((w.alloc (.cells #[.int .i64 n, .slice A js.length c] 24)).alloc (.cells #[.int .i64 0, .int .i64 1, .int .i64 3] 3)).alloc (.cells #[.int .i64 0, .int .i64 2, .int .i64 4] 3) = w1 at *
  obtain ⟨g0, g1, g2, hbw1, hsz⟩ := unhid HBX
  have d0 := cell_of_row _ w.heap.size 0 _ _ _ g0
  have d1 := cell_of_row _ w.heap.size 1 _ _ _ g0
  have s1 := cell_of_row _ (w.heap.size + 1) 1 _ _ _ g1
  have s2 := cell_of_row _ (w.heap.size + 1) 2 _ _ _ g1
  have e1 := cell_of_row _ (w.heap.size + 2) 1 _ _ _ g2
  have e2 := cell_of_row _ (w.heap.size + 2) 2 _ _ _ g2
  simp at d0 d1 s1 s2 e1 e2
  have SC := hid (fun (wr : World) (hb : Below w1.heap.size w1 wr) => (show (∀ tn : Nat, 1 ≤ tn → tn ≤ 2 → wr.cell? ⟨w.heap.size + 1, tn, none⟩ = some (.int .i64 (2 * (tn : Int) - 1)) ∧ wr.cell? ⟨w.heap.size + 2, tn, none⟩ = some (.int .i64 (2 * (tn : Int)))) ∧ wr.cell? ⟨w.heap.size, 0, none⟩ = some (.int .i64 n) ∧ wr.cell? ⟨w.heap.size, 1, none⟩ = some (.slice A js.length c) from by
    refine ⟨fun tn h1 h2 => ?_, (hb.cell (p := ⟨w.heap.size, 0, none⟩) (by dsimp only; omega)).trans d0, (hb.cell (p := ⟨w.heap.size, 1, none⟩) (by dsimp only; omega)).trans d1⟩
    rcases (show tn = 1 ∨ tn = 2 by omega) with rfl | rfl
    · exact ⟨(hb.cell (p := ⟨w.heap.size + 1, 1, none⟩) (by dsimp only; omega)).trans s1, (hb.cell (p := ⟨w.heap.size + 2, 1, none⟩) (by dsimp only; omega)).trans e1⟩
    · exact ⟨(hb.cell (p := ⟨w.heap.size + 1, 2, none⟩) (by dsimp only; omega)).trans s2, (hb.cell (p := ⟨w.heap.size + 2, 2, none⟩) (by dsimp only; omega)).trans e2⟩))
  have hB1 : w.heap.size + 3 ≤ w1.heap.size := by omega
  clear hsz
  clear hW HBX g0 g1 g2 d0 d1 s1 s2 e1 e2
  obtain ⟨-, d0, d1⟩ := (unhid SC) w1 (Below.refl _ _)
  go_loopw [8, 11] (fun v t wr => ∃ (k : Nat) (A6 : Option Addr) (c6 : Nat), k ≤ 2 ∧ t = .int .i64 ((k + 1 : Nat) : Int) ∧ v = .slice A6 (ppAll n js ed hour (2 * k)).length c6 ∧ wr.ownsRow w1.heap.size 34 9 (.slice A6 (ppAll n js ed hour (2 * k)).length c6) (ppAll n js ed hour (2 * k)).length (signs (ppAll n js ed hour (2 * k))) ∧ Below w1.heap.size w1 wr) (fun _ t _ => 3 - (intOf t).toNat)
  case atStart => exact ⟨0, none, 0, by omega, rfl, rfl, World.ownsRow_nil _ _ _ _, Below.refl _ _⟩
  case round =>
    obtain ⟨k, A6, c6, hk, rfl, rfl, hown, hbel⟩ := hrel
    have HO := hid hown
    clear hown
    obtain ⟨tn, htn⟩ : ∃ tn : Nat, tn = k + 1 := ⟨_, rfl⟩
    rw [← htn]
    have HTN := hid htn
    have htn1 : 1 ≤ tn := by omega
    by_cases hlt : k < 2
    · have htn2 : tn ≤ 2 := by omega
      have htn3 : (tn : Int) ≤ 2 := by omega
      have htn4 : (0 : Int) ≤ (tn : Int) := by omega
      have htn5 : (tn : Int) < 3 := by omega
      clear htn
      go_wp2_with fail
      go_loopw [8, 12] (fun v d wr => ∃ (j : Nat) (A6 : Option Addr) (c6 : Nat), j ≤ 2 ∧ d = .int .i64 (1 - 2 * (j : Int)) ∧ v = .slice A6 (ppAll n js ed hour (2 * k + j)).length c6 ∧ wr.ownsRow w1.heap.size 34 9 (.slice A6 (ppAll n js ed hour (2 * k + j)).length c6) (ppAll n js ed hour (2 * k + j)).length (signs (ppAll n js ed hour (2 * k + j))) ∧ Below w1.heap.size w1 wr) (fun _ d _ => (intOf d + 3).toNat)
      case atStart => exact ⟨0, A6, c6, by omega, rfl, rfl, unhid HO, hbel⟩
      case round =>
        clear HO hbel
        obtain ⟨j, A6, c6, hj, rfl, rfl, hown, hbel⟩ := hrel
        have HO := hid hown
        clear hown
        by_cases hjt : j < 2
        · have hT := topI_at' hlt hjt
          have hD := dirI_at' hlt hjt
          have hlen0 := ppAll_len n js ed hour (2 * k + j)
          have hlen2 : (2 * k + j) * n ≤ 4 * 100000 := Nat.mul_le_mul (by omega) (by omega)
          have HSU := hid (show ppAll n js ed hour (2 * k + j + 1) = (ppRun n js (mustM n ed hour (topI (2 * k + j)) (dirI (2 * k + j))) (topI (2 * k + j)) (dirI (2 * k + j)) hour (ppAll n js ed hour (2 * k + j)) n).1 from rfl)
          rw [hT, hD, ← unhid HTN] at HSU
          generalize ho0 : ppAll n js ed hour (2 * k + j) = out0 at *
          have HO0 := hid ho0
          clear ho0
          obtain ⟨dir, hdir⟩ : ∃ t : Int, t = 1 - 2 * (j : Int) := ⟨_, rfl⟩
          rw [← hdir] at HSU
          rw [← hdir]
          have hda : (-1 : Int) ≤ dir := by omega
          have hdb : dir ≤ 1 := by omega
          have HDI := hid hdir
          have HH5 := hid (show (mustM n ed hour tn dir).length = n from mustS_len _ _ _ _ _)
          have HMP := hid (fun q (hq : q < n) => (show (mustM n ed hour tn dir)[q]? = some (mustP ed hour dir tn (q : Nat)) from by simp [mustM, mustS, hq]))
          clear hT hD hdir
          generalize mustM n ed hour tn dir = MS at *
          go_wp2_with fail
          go_loopw [8, 13, 14] (fun v nw i wr => ∃ (m : Nat) (o : List Sg) (A6 : Option Addr) (c6 : Nat), m ≤ n ∧ i = .int .i64 m ∧ v = .slice A6 o.length c6 ∧ nw = .int .i64 (ppRun n js MS tn dir hour out0 m).2 ∧ o = (ppRun n js MS tn dir hour out0 m).1 ∧ wr.ownsRow w1.heap.size 34 9 (.slice A6 o.length c6) o.length (signs o) ∧ Below w1.heap.size w1 wr) (fun _ _ i _ => n - (intOf i).toNat)
          case atStart => exact ⟨0, out0, A6, c6, Nat.zero_le _, rfl, rfl, rfl, rfl, unhid HO, hbel⟩
          case round =>
            clear hbel HO
            obtain ⟨m, o, A6, c6, hm, rfl, rfl, rfl, ho, hown, hbel⟩ := hrel
            have holen := ppRun_len n js MS tn dir hour out0 m
            rw [← ho] at holen
            have HOE := hid ho
            have HO := hid hown
            have HSC := hid (ppRun_succ n js MS tn dir hour out0 m)
            clear hown
            obtain ⟨hst, f0, f1⟩ := (unhid SC) wr hbel
            by_cases hmt : m < n
            · clear ho
              generalize hst0 : ppRun n js MS tn dir hour out0 m = st at *
              obtain ⟨o2, nw0⟩ := st
              obtain rfl : o = o2 := unhid HOE
              dsimp only
              have hmi := metreI_lt (len := n) (dir := dir) (k := m) (by omega) (by omega)
              obtain ⟨q, hq⟩ := Int.eq_ofNat_of_zero_le hmi.1
              have hqn : q < n := by omega
              have hgd : MS.getD (metreI n dir m).toNat 0 = mustP ed hour dir tn (q : Nat) := by rw [hq]; simp [List.getD_eq_getElem?_getD, unhid HMP q hqn]
              have KM := hid (fun (W : World) (hb : Below wr.heap.size wr W) => (rmust_calls A3 ed c3 hour dir tn (metreI n dir m) W (((unhid HE).below (hbw1.trans (hbel.mono hbw1.size))).below hb) hl50).mono fun _ _ h => (⟨h.1.trans (by rw [hq]), hb.trans (h.2.mono hb.size)⟩ : _ ∧ Below wr.heap.size wr _))
              have KB := hid (fun (W : World) => beginning_calls n A js.length c dir m W (by omega) (by omega) hn)
              have KJ := hid (fun (W : World) (hb : Below wr.heap.size wr W) => (rjunction_calls n A js c dir m W (((unhid HL).below (hbw1.trans (hbel.mono hbw1.size))).below hb) (unhid HJ) hn (by omega)).mono fun _ _ h => (⟨h.1, hb.trans (h.2.mono hb.size)⟩ : _ ∧ Below wr.heap.size wr _))
              have KD := hid (fun (W : World) => rdistance_calls n A js.length c dir m W (by omega) (by omega) hn)
              generalize hxx : mustP ed hour dir tn (q : Nat) = x at *
              have HGD := hid hgd
              clear hxx hgd hq hmi hst0
              obtain ⟨nw, hnw⟩ : ∃ nw, nw = nowP n js dir nw0 m := ⟨_, rfl⟩
              have hnw2 : nw = if distI n dir m ∈ js then 0 else nw0 := hnw
              have HNW := hid hnw
              clear hnw
              generalize hch : distI n dir m = ch at *
              generalize hmm : metreI n dir m = mm at *
              have HCH := hid hch
              have HMM := hid hmm
              clear hch hmm
              have hst2 := hst tn htn1 htn2
              obtain ⟨t1, t2⟩ := hst2
              clear hst
              go_wp2_with fail
              refine ((unhid KJ) wr (Below.refl _ _)).mono ?_
              rintro e w2 ⟨rfl, hb2⟩
              have hbel2 : Below w1.heap.size w1 w2 := hbel.trans (hb2.mono hbel.size)
              clear t1 t2 f0 f1
              obtain ⟨hst, f0, f1⟩ := (unhid SC) w2 hbel2
              have HSC2 := hid hst
              clear hst
              have HO2 := hid (own_below (unhid HO) hb2)
              by_cases hjc : ch ∈ js
              · rw [if_pos hjc] at hnw2
                have hdj := decide_eq_true hjc
                have HJC := hid hjc
                clear hjc
                rw [hdj]
                go_wp2_with fail
                refine ((unhid KB) _).mono ?_
                rintro e w3 ⟨rfl, hw3⟩
                have hb3 : Below wr.heap.size wr w3 := by rw [hw3]; exact below_alloc' hb2 _
                clear hw3 f0 f1
                go_wp2_with fail
                refine ((unhid KM) _ hb3).mono ?_
                rintro e w4 ⟨rfl, hb4⟩
                have hbel4 : Below w1.heap.size w1 w4 := hbel.trans (hb4.mono hbel.size)
                obtain ⟨hst, f0, f1⟩ := (unhid SC) w4 hbel4
                obtain ⟨t1, t2⟩ := hst tn htn1 htn2
                clear hst hb3 hbel2 HO2 HSC2
                have HO4 := hid (own_below (unhid HO) hb4)
                have hlt4 := hb4.size
                by_cases hx : x = nw
                · have hx' : (x == nw) = true := by simpa using hx
                  have HNX := hid ((unhid HSC).trans (ppS_same (st := (o, nw0)) (unhid HNW).symm (by rw [unhid HMM]; exact unhid HGD) hx))
                  subst hnw2
                  have HX := hid hx
                  clear hx
                  go_wp2_with fail
                  go_roundw
                  case rel => exact ⟨m + 1, o, A6, c6, by omega, by go_num, rfl, by rw [unhid HNX], by rw [unhid HNX], unhid HO4, hbel4⟩
                  case measure => simp [intOf]; omega
                · have hx' : (x == nw) = false := by simpa using hx
                  have HNX := hid ((unhid HSC).trans (ppS_push (st := (o, nw0)) (unhid HNW).symm (by rw [unhid HMM]; exact unhid HGD) hx))
                  subst hnw2
                  have HX := hid hx
                  clear hx
                  have hk1 : IntKind.i64.wrap ((o.length : Int) + 1) = (o.length : Int) + 1 := IntWalk.i64_in _ (by omega)
                  have hk2 : IntKind.i64.wrap (hour + 1) = hour + 1 := IntWalk.i64_in _ (by omega)
                  dsimp only at HNX
                  rw [unhid HCH] at HNX
                  go_wp2_with fail
                  have HBX := hid hbel4
                  have ow4 := own_lt' (unhid HO4) (g := 0)
                  clear ow4
                  go_cut [16] (fun s16 wz => ∃ B2 : Nat, s16 = .pointer (some ⟨B2, 0, none⟩) ∧ w4.heap.size ≤ B2 ∧ Below w4.heap.size w4 wz ∧ wz.heap[B2]? = some (.cells #[.int .i64 (o.length + 1), .int .i64 (2 * (tn : Int)), .int .i64 0, .int .i64 ch, .int .i64 dir, .int .i64 tn, .int .i64 hour, .int .i64 (hour + 1), .slice none 0 0] 34 (0, 0)))
                  case first =>
                    have hw3a : w.heap.size < w4.heap.size := by have := hbel4.size; omega
                    go_region_held3 (fun w' => w'.cell? ⟨w.heap.size, 0, none⟩ = some (.int .i64 n) ∧ w'.cell? ⟨w.heap.size, 1, none⟩ = some (.slice A js.length c) ∧ w'.cell? ⟨w.heap.size + 2, tn, none⟩ = some (.int .i64 (2 * (tn : Int)))) (first | (refine ⟨?_, ?_, ?_⟩ <;> assumption) | go_keep)
                      (first
                        | (go_at_call 81; refine ((unhid KD) _).mono ?_; rintro e w5 ⟨rfl, rfl⟩))
                    all_goals
                      go_wp2_with fail
                      go_meet
                      case rel => exact ⟨_, rfl, by omega, Below.drew (below_alloc' (below_alloc w4 _) _), by first | exact alloc2_new _ _ _ _ _ | exact alloc2_old _ _ _ _ _⟩
                  case rest =>
                    obtain ⟨B2, rfl, hB2, hb5, hblk⟩ := hcut
                    have hbel5 : Below w1.heap.size w1 wc := (unhid HBX).trans (hb5.mono (unhid HBX).size)
                    have HO5 := hid (own_below (unhid HO4) hb5)
                    have hneB : (Value.slice A6 o.length c6).ownBlock ≠ some B2 := fun e => by have := (own_lt' (unhid HO4) e).2; omega
                    have HNE := hid hneB
                    clear t1 t2 f0 f1 HBX hneB
                    obtain ⟨hst, f0, f1⟩ := (unhid SC) wc hbel5
                    obtain ⟨t1, t2⟩ := hst tn htn1 htn2
                    have y0 := cell_of_row _ B2 0 _ _ _ hblk
                    have y1 := cell_of_row _ B2 1 _ _ _ hblk
                    have y2 := cell_of_row _ B2 2 _ _ _ hblk
                    have y3 := cell_of_row _ B2 3 _ _ _ hblk
                    have y4 := cell_of_row _ B2 4 _ _ _ hblk
                    have y5 := cell_of_row _ B2 5 _ _ _ hblk
                    have y6 := cell_of_row _ B2 6 _ _ _ hblk
                    have y7 := cell_of_row _ B2 7 _ _ _ hblk
                    have y8 := cell_of_row _ B2 8 _ _ _ hblk
                    simp at y0 y1 y2 y3 y4 y5 y6 y7 y8
                    have z1 := frozen_of_row _ B2 1 _ _ hblk
                    have z2 := frozen_of_row _ B2 2 _ _ hblk
                    have hBc : B2 < wc.heap.size := (Array.getElem?_eq_some_iff.1 hblk).1
                    have hB1c := hb5.size
                    have hw1c := hbel5.size
                    have hw1B : w1.heap.size ≤ B2 := by have := hbel4.size; omega
                    have HB5 := hid hbel5
                    clear hst hblk hb5 hbel5
                    rcases (show (x = 0) ∨ (¬ x = 0 ∧ tn = 1) ∨ (¬ x = 0 ∧ tn = 2) by omega) with hx0 | ⟨hx0, ht⟩ | ⟨hx0, ht⟩
                    · subst hx0
                      have HSG := hid (show sgC (postS (o.length + 1) tn 0 ch dir hour) = [.int .i64 (o.length + 1), .int .i64 (2 * (tn : Int)), .int .i64 0, .int .i64 ch, .int .i64 dir, .int .i64 tn, .int .i64 hour, .int .i64 (hour + 1), .slice none 0 0] from by rcases (show tn = 1 ∨ tn = 2 by omega) with rfl | rfl <;> simp [postS, sgC])
                      go_wp2_with (at_builtin; refine wpList_append_lies _ rfl _ _ 25 rfl w1.heap.size 34 i0 (.agg #[.int .i64 0, .int .i64 0, .int .i64 0, .int .i64 0, .int .i64 0, .int .i64 0, .int .i64 0, .int .i64 0, .slice none 0 0]) 9 88 Try.underlying25 hi hz0 hz1 hz2 rfl (by decide) _ _ _ rfl ((unhid HO5).alloc _) _ 1 1 [.int .i64 (o.length + 1), .int .i64 (2 * (tn : Int)), .int .i64 0, .int .i64 ch, .int .i64 dir, .int .i64 tn, .int .i64 hour, .int .i64 (hour + 1), .slice none 0 0] rfl rfl ?_ ?_ (by decide) ?_ ?_ ?_ (wc.heap.size + 1) (by simp) ?_)
                      all_goals try (first | exact World.news_of_block (heap_alloc_new _ _) | exact World.news_of_block (heap_alloc_at (by simp)) | (unfold maxLen; omega) | omega | exact ⟨rfl, rfl, rfl, rfl, rfl, rfl, rfl, rfl, rfl⟩ | (simp; omega) | (intro u hu; simp at hu; rcases hu with rfl | rfl | rfl | rfl | rfl | rfl | rfl | rfl | rfl <;> rfl))
                      intro g8 c8 w6 hown6 hg6 hat6 hlt6
                      have hb6 : Below w1.heap.size w1 w6 := by
                        refine Below.grown ((unhid HB5).alloc (by first | omega | (simp; omega)) _) hg6 (by first | omega | (simp; omega)) (fun i hi => ?_)
                        rcases Nat.lt_or_ge i w1.heap.size with h | h
                        · exact absurd hi (own_ne (unhid HO5) (Or.inl h))
                        · exact h
                      have HO6 := hid hown6
                      clear hown6 hg6 hat6 hlt6 y0 y1 y2 y3 y4 y5 y6 y7 y8 z1 z2
                      go_wp2_with fail
                      go_roundw
                      case rel =>
                        refine ⟨m + 1, o ++ [postS (o.length + 1) tn 0 ch dir hour], some ⟨g8, 0, none⟩, c8, by omega, by go_num, by simp, by rw [unhid HNX], by rw [unhid HNX], ?_, hb6⟩
                        rw [show (o ++ [postS (o.length + 1) tn 0 ch dir hour]).length = o.length + 1 by simp, show signs (o ++ [postS (o.length + 1) tn 0 ch dir hour]) = signs o ++ sgC (postS (o.length + 1) tn 0 ch dir hour) from by simp [signs], unhid HSG]
                        exact unhid HO6
                      case measure => simp [intOf]; omega
                    · have HX0 := hid hx0
                      have b1 : (x != 0) = true := by simpa using hx0
                      have b2 : ((tn : Int) == 1) = true := by simp [ht]
                      have HT := hid ht
                      clear hx0 ht
                      have HSG := hid (show sgC (postS (o.length + 1) tn x ch dir hour) = [.int .i64 (o.length + 1), .int .i64 (2 * (tn : Int) - 1), .int .i64 x, .int .i64 ch, .int .i64 dir, .int .i64 tn, .int .i64 hour, .int .i64 (hour + 1), .slice none 0 0] from by rw [unhid HT]; simp [postS, sgC, unhid HX0])
                      go_wp2_with (at_builtin; refine wpList_append_lies _ rfl _ _ 25 rfl w1.heap.size 34 i0 (.agg #[.int .i64 0, .int .i64 0, .int .i64 0, .int .i64 0, .int .i64 0, .int .i64 0, .int .i64 0, .int .i64 0, .slice none 0 0]) 9 88 Try.underlying25 hi hz0 hz1 hz2 rfl (by decide) _ _ _ rfl ((own_setB (own_setB (unhid HO5) (unhid HNE) 1 (.int .i64 (2 * (tn : Int) - 1))) (unhid HNE) 2 (.int .i64 x)).alloc _) _ 1 1 [.int .i64 (o.length + 1), .int .i64 (2 * (tn : Int) - 1), .int .i64 x, .int .i64 ch, .int .i64 dir, .int .i64 tn, .int .i64 hour, .int .i64 (hour + 1), .slice none 0 0] rfl rfl ?_ ?_ (by decide) ?_ ?_ ?_ (wc.heap.size + 1) (by simp) ?_)
                      all_goals try (first | exact World.news_of_block (heap_alloc_new _ _) | exact World.news_of_block (heap_alloc_at (by simp)) | (unfold maxLen; omega) | omega | exact ⟨rfl, rfl, rfl, rfl, rfl, rfl, rfl, rfl, rfl⟩ | (simp; omega) | (intro u hu; simp at hu; rcases hu with rfl | rfl | rfl | rfl | rfl | rfl | rfl | rfl | rfl <;> rfl))
                      intro g8 c8 w6 hown6 hg6 hat6 hlt6
                      have hb6 : Below w1.heap.size w1 w6 := by
                        refine Below.grown ((Below.setCell (Below.setCell (unhid HB5) hw1B _) hw1B _).alloc (by first | omega | (simp; omega)) _) hg6 (by first | omega | (simp; omega)) (fun i hi => ?_)
                        rcases Nat.lt_or_ge i w1.heap.size with h | h
                        · exact absurd hi (own_ne (unhid HO5) (Or.inl h))
                        · exact h
                      have HO6 := hid hown6
                      clear hown6 hg6 hat6 hlt6 y0 y1 y2 y3 y4 y5 y6 y7 y8 z1 z2
                      go_wp2_with fail
                      go_roundw
                      case rel =>
                        refine ⟨m + 1, o ++ [postS (o.length + 1) tn x ch dir hour], some ⟨g8, 0, none⟩, c8, by omega, by go_num, by simp, by rw [unhid HNX], by rw [unhid HNX], ?_, hb6⟩
                        rw [show (o ++ [postS (o.length + 1) tn x ch dir hour]).length = o.length + 1 by simp, show signs (o ++ [postS (o.length + 1) tn x ch dir hour]) = signs o ++ sgC (postS (o.length + 1) tn x ch dir hour) from by simp [signs], unhid HSG]
                        exact unhid HO6
                      case measure => simp [intOf]; omega
                    · have HX0 := hid hx0
                      have b1 : (x != 0) = true := by simpa using hx0
                      have b2 : ((tn : Int) == 1) = false := by simp [ht]
                      have HT := hid ht
                      clear hx0 ht
                      have HSG := hid (show sgC (postS (o.length + 1) tn x ch dir hour) = [.int .i64 (o.length + 1), .int .i64 (2 * (tn : Int) - 1), .int .i64 0, .int .i64 ch, .int .i64 dir, .int .i64 tn, .int .i64 hour, .int .i64 (hour + 1), .slice none 0 0] from by rw [unhid HT]; simp [postS, sgC, unhid HX0])
                      go_wp2_with (at_builtin; refine wpList_append_lies _ rfl _ _ 25 rfl w1.heap.size 34 i0 (.agg #[.int .i64 0, .int .i64 0, .int .i64 0, .int .i64 0, .int .i64 0, .int .i64 0, .int .i64 0, .int .i64 0, .slice none 0 0]) 9 88 Try.underlying25 hi hz0 hz1 hz2 rfl (by decide) _ _ _ rfl ((own_setB (unhid HO5) (unhid HNE) 1 (.int .i64 (2 * (tn : Int) - 1))).alloc _) _ 1 1 [.int .i64 (o.length + 1), .int .i64 (2 * (tn : Int) - 1), .int .i64 0, .int .i64 ch, .int .i64 dir, .int .i64 tn, .int .i64 hour, .int .i64 (hour + 1), .slice none 0 0] rfl rfl ?_ ?_ (by decide) ?_ ?_ ?_ (wc.heap.size + 1) (by simp) ?_)
                      all_goals try (first | exact World.news_of_block (heap_alloc_new _ _) | exact World.news_of_block (heap_alloc_at (by simp)) | (unfold maxLen; omega) | omega | exact ⟨rfl, rfl, rfl, rfl, rfl, rfl, rfl, rfl, rfl⟩ | (simp; omega) | (intro u hu; simp at hu; rcases hu with rfl | rfl | rfl | rfl | rfl | rfl | rfl | rfl | rfl <;> rfl))
                      intro g8 c8 w6 hown6 hg6 hat6 hlt6
                      have hb6 : Below w1.heap.size w1 w6 := by
                        refine Below.grown ((Below.setCell (unhid HB5) hw1B _).alloc (by first | omega | (simp; omega)) _) hg6 (by first | omega | (simp; omega)) (fun i hi => ?_)
                        rcases Nat.lt_or_ge i w1.heap.size with h | h
                        · exact absurd hi (own_ne (unhid HO5) (Or.inl h))
                        · exact h
                      have HO6 := hid hown6
                      clear hown6 hg6 hat6 hlt6 y0 y1 y2 y3 y4 y5 y6 y7 y8 z1 z2
                      go_wp2_with fail
                      go_roundw
                      case rel =>
                        refine ⟨m + 1, o ++ [postS (o.length + 1) tn x ch dir hour], some ⟨g8, 0, none⟩, c8, by omega, by go_num, by simp, by rw [unhid HNX], by rw [unhid HNX], ?_, hb6⟩
                        rw [show (o ++ [postS (o.length + 1) tn x ch dir hour]).length = o.length + 1 by simp, show signs (o ++ [postS (o.length + 1) tn x ch dir hour]) = signs o ++ sgC (postS (o.length + 1) tn x ch dir hour) from by simp [signs], unhid HSG]
                        exact unhid HO6
                      case measure => simp [intOf]; omega
              · rw [if_neg hjc] at hnw2
                have hdj := decide_eq_false hjc
                have HJC := hid hjc
                clear hjc
                rw [hdj]
                go_wp2_with fail
                refine ((unhid KB) _).mono ?_
                rintro e w3 ⟨rfl, hw3⟩
                have hb3 : Below wr.heap.size wr w3 := by rw [hw3]; exact below_alloc' hb2 _
                clear hw3 f0 f1
                go_wp2_with fail
                refine ((unhid KM) _ hb3).mono ?_
                rintro e w4 ⟨rfl, hb4⟩
                have hbel4 : Below w1.heap.size w1 w4 := hbel.trans (hb4.mono hbel.size)
                obtain ⟨hst, f0, f1⟩ := (unhid SC) w4 hbel4
                obtain ⟨t1, t2⟩ := hst tn htn1 htn2
                clear hst hb3 hbel2 HO2 HSC2
                have HO4 := hid (own_below (unhid HO) hb4)
                have hlt4 := hb4.size
                by_cases hx : x = nw
                · have hx' : (x == nw) = true := by simpa using hx
                  have HNX := hid ((unhid HSC).trans (ppS_same (st := (o, nw0)) (unhid HNW).symm (by rw [unhid HMM]; exact unhid HGD) hx))
                  subst hnw2
                  have HX := hid hx
                  clear hx
                  go_wp2_with fail
                  go_roundw
                  case rel => exact ⟨m + 1, o, A6, c6, by omega, by go_num, rfl, by rw [unhid HNX], by rw [unhid HNX], unhid HO4, hbel4⟩
                  case measure => simp [intOf]; omega
                · have hx' : (x == nw) = false := by simpa using hx
                  have HNX := hid ((unhid HSC).trans (ppS_push (st := (o, nw0)) (unhid HNW).symm (by rw [unhid HMM]; exact unhid HGD) hx))
                  subst hnw2
                  have HX := hid hx
                  clear hx
                  have hk1 : IntKind.i64.wrap ((o.length : Int) + 1) = (o.length : Int) + 1 := IntWalk.i64_in _ (by omega)
                  have hk2 : IntKind.i64.wrap (hour + 1) = hour + 1 := IntWalk.i64_in _ (by omega)
                  dsimp only at HNX
                  rw [unhid HCH] at HNX
                  go_wp2_with fail
                  have HBX := hid hbel4
                  have ow4 := own_lt' (unhid HO4) (g := 0)
                  clear ow4
                  go_cut [16] (fun s16 wz => ∃ B2 : Nat, s16 = .pointer (some ⟨B2, 0, none⟩) ∧ w4.heap.size ≤ B2 ∧ Below w4.heap.size w4 wz ∧ wz.heap[B2]? = some (.cells #[.int .i64 (o.length + 1), .int .i64 (2 * (tn : Int)), .int .i64 0, .int .i64 ch, .int .i64 dir, .int .i64 tn, .int .i64 hour, .int .i64 (hour + 1), .slice none 0 0] 34 (0, 0)))
                  case first =>
                    have hw3a : w.heap.size < w4.heap.size := by have := hbel4.size; omega
                    go_region_held3 (fun w' => w'.cell? ⟨w.heap.size, 0, none⟩ = some (.int .i64 n) ∧ w'.cell? ⟨w.heap.size, 1, none⟩ = some (.slice A js.length c) ∧ w'.cell? ⟨w.heap.size + 2, tn, none⟩ = some (.int .i64 (2 * (tn : Int)))) (first | (refine ⟨?_, ?_, ?_⟩ <;> assumption) | go_keep)
                      (first
                        | (go_at_call 81; refine ((unhid KD) _).mono ?_; rintro e w5 ⟨rfl, rfl⟩))
                    all_goals
                      go_wp2_with fail
                      go_meet
                      case rel => exact ⟨_, rfl, by omega, Below.drew (below_alloc' (below_alloc w4 _) _), by first | exact alloc2_new _ _ _ _ _ | exact alloc2_old _ _ _ _ _⟩
                  case rest =>
                    obtain ⟨B2, rfl, hB2, hb5, hblk⟩ := hcut
                    have hbel5 : Below w1.heap.size w1 wc := (unhid HBX).trans (hb5.mono (unhid HBX).size)
                    have HO5 := hid (own_below (unhid HO4) hb5)
                    have hneB : (Value.slice A6 o.length c6).ownBlock ≠ some B2 := fun e => by have := (own_lt' (unhid HO4) e).2; omega
                    have HNE := hid hneB
                    clear t1 t2 f0 f1 HBX hneB
                    obtain ⟨hst, f0, f1⟩ := (unhid SC) wc hbel5
                    obtain ⟨t1, t2⟩ := hst tn htn1 htn2
                    have y0 := cell_of_row _ B2 0 _ _ _ hblk
                    have y1 := cell_of_row _ B2 1 _ _ _ hblk
                    have y2 := cell_of_row _ B2 2 _ _ _ hblk
                    have y3 := cell_of_row _ B2 3 _ _ _ hblk
                    have y4 := cell_of_row _ B2 4 _ _ _ hblk
                    have y5 := cell_of_row _ B2 5 _ _ _ hblk
                    have y6 := cell_of_row _ B2 6 _ _ _ hblk
                    have y7 := cell_of_row _ B2 7 _ _ _ hblk
                    have y8 := cell_of_row _ B2 8 _ _ _ hblk
                    simp at y0 y1 y2 y3 y4 y5 y6 y7 y8
                    have z1 := frozen_of_row _ B2 1 _ _ hblk
                    have z2 := frozen_of_row _ B2 2 _ _ hblk
                    have hBc : B2 < wc.heap.size := (Array.getElem?_eq_some_iff.1 hblk).1
                    have hB1c := hb5.size
                    have hw1c := hbel5.size
                    have hw1B : w1.heap.size ≤ B2 := by have := hbel4.size; omega
                    have HB5 := hid hbel5
                    clear hst hblk hb5 hbel5
                    rcases (show (x = 0) ∨ (¬ x = 0 ∧ tn = 1) ∨ (¬ x = 0 ∧ tn = 2) by omega) with hx0 | ⟨hx0, ht⟩ | ⟨hx0, ht⟩
                    · subst hx0
                      have HSG := hid (show sgC (postS (o.length + 1) tn 0 ch dir hour) = [.int .i64 (o.length + 1), .int .i64 (2 * (tn : Int)), .int .i64 0, .int .i64 ch, .int .i64 dir, .int .i64 tn, .int .i64 hour, .int .i64 (hour + 1), .slice none 0 0] from by rcases (show tn = 1 ∨ tn = 2 by omega) with rfl | rfl <;> simp [postS, sgC])
                      go_wp2_with (at_builtin; refine wpList_append_lies _ rfl _ _ 25 rfl w1.heap.size 34 i0 (.agg #[.int .i64 0, .int .i64 0, .int .i64 0, .int .i64 0, .int .i64 0, .int .i64 0, .int .i64 0, .int .i64 0, .slice none 0 0]) 9 88 Try.underlying25 hi hz0 hz1 hz2 rfl (by decide) _ _ _ rfl ((unhid HO5).alloc _) _ 1 1 [.int .i64 (o.length + 1), .int .i64 (2 * (tn : Int)), .int .i64 0, .int .i64 ch, .int .i64 dir, .int .i64 tn, .int .i64 hour, .int .i64 (hour + 1), .slice none 0 0] rfl rfl ?_ ?_ (by decide) ?_ ?_ ?_ (wc.heap.size + 1) (by simp) ?_)
                      all_goals try (first | exact World.news_of_block (heap_alloc_new _ _) | exact World.news_of_block (heap_alloc_at (by simp)) | (unfold maxLen; omega) | omega | exact ⟨rfl, rfl, rfl, rfl, rfl, rfl, rfl, rfl, rfl⟩ | (simp; omega) | (intro u hu; simp at hu; rcases hu with rfl | rfl | rfl | rfl | rfl | rfl | rfl | rfl | rfl <;> rfl))
                      intro g8 c8 w6 hown6 hg6 hat6 hlt6
                      have hb6 : Below w1.heap.size w1 w6 := by
                        refine Below.grown ((unhid HB5).alloc (by first | omega | (simp; omega)) _) hg6 (by first | omega | (simp; omega)) (fun i hi => ?_)
                        rcases Nat.lt_or_ge i w1.heap.size with h | h
                        · exact absurd hi (own_ne (unhid HO5) (Or.inl h))
                        · exact h
                      have HO6 := hid hown6
                      clear hown6 hg6 hat6 hlt6 y0 y1 y2 y3 y4 y5 y6 y7 y8 z1 z2
                      go_wp2_with fail
                      go_roundw
                      case rel =>
                        refine ⟨m + 1, o ++ [postS (o.length + 1) tn 0 ch dir hour], some ⟨g8, 0, none⟩, c8, by omega, by go_num, by simp, by rw [unhid HNX], by rw [unhid HNX], ?_, hb6⟩
                        rw [show (o ++ [postS (o.length + 1) tn 0 ch dir hour]).length = o.length + 1 by simp, show signs (o ++ [postS (o.length + 1) tn 0 ch dir hour]) = signs o ++ sgC (postS (o.length + 1) tn 0 ch dir hour) from by simp [signs], unhid HSG]
                        exact unhid HO6
                      case measure => simp [intOf]; omega
                    · have HX0 := hid hx0
                      have b1 : (x != 0) = true := by simpa using hx0
                      have b2 : ((tn : Int) == 1) = true := by simp [ht]
                      have HT := hid ht
                      clear hx0 ht
                      have HSG := hid (show sgC (postS (o.length + 1) tn x ch dir hour) = [.int .i64 (o.length + 1), .int .i64 (2 * (tn : Int) - 1), .int .i64 x, .int .i64 ch, .int .i64 dir, .int .i64 tn, .int .i64 hour, .int .i64 (hour + 1), .slice none 0 0] from by rw [unhid HT]; simp [postS, sgC, unhid HX0])
                      go_wp2_with (at_builtin; refine wpList_append_lies _ rfl _ _ 25 rfl w1.heap.size 34 i0 (.agg #[.int .i64 0, .int .i64 0, .int .i64 0, .int .i64 0, .int .i64 0, .int .i64 0, .int .i64 0, .int .i64 0, .slice none 0 0]) 9 88 Try.underlying25 hi hz0 hz1 hz2 rfl (by decide) _ _ _ rfl ((own_setB (own_setB (unhid HO5) (unhid HNE) 1 (.int .i64 (2 * (tn : Int) - 1))) (unhid HNE) 2 (.int .i64 x)).alloc _) _ 1 1 [.int .i64 (o.length + 1), .int .i64 (2 * (tn : Int) - 1), .int .i64 x, .int .i64 ch, .int .i64 dir, .int .i64 tn, .int .i64 hour, .int .i64 (hour + 1), .slice none 0 0] rfl rfl ?_ ?_ (by decide) ?_ ?_ ?_ (wc.heap.size + 1) (by simp) ?_)
                      all_goals try (first | exact World.news_of_block (heap_alloc_new _ _) | exact World.news_of_block (heap_alloc_at (by simp)) | (unfold maxLen; omega) | omega | exact ⟨rfl, rfl, rfl, rfl, rfl, rfl, rfl, rfl, rfl⟩ | (simp; omega) | (intro u hu; simp at hu; rcases hu with rfl | rfl | rfl | rfl | rfl | rfl | rfl | rfl | rfl <;> rfl))
                      intro g8 c8 w6 hown6 hg6 hat6 hlt6
                      have hb6 : Below w1.heap.size w1 w6 := by
                        refine Below.grown ((Below.setCell (Below.setCell (unhid HB5) hw1B _) hw1B _).alloc (by first | omega | (simp; omega)) _) hg6 (by first | omega | (simp; omega)) (fun i hi => ?_)
                        rcases Nat.lt_or_ge i w1.heap.size with h | h
                        · exact absurd hi (own_ne (unhid HO5) (Or.inl h))
                        · exact h
                      have HO6 := hid hown6
                      clear hown6 hg6 hat6 hlt6 y0 y1 y2 y3 y4 y5 y6 y7 y8 z1 z2
                      go_wp2_with fail
                      go_roundw
                      case rel =>
                        refine ⟨m + 1, o ++ [postS (o.length + 1) tn x ch dir hour], some ⟨g8, 0, none⟩, c8, by omega, by go_num, by simp, by rw [unhid HNX], by rw [unhid HNX], ?_, hb6⟩
                        rw [show (o ++ [postS (o.length + 1) tn x ch dir hour]).length = o.length + 1 by simp, show signs (o ++ [postS (o.length + 1) tn x ch dir hour]) = signs o ++ sgC (postS (o.length + 1) tn x ch dir hour) from by simp [signs], unhid HSG]
                        exact unhid HO6
                      case measure => simp [intOf]; omega
                    · have HX0 := hid hx0
                      have b1 : (x != 0) = true := by simpa using hx0
                      have b2 : ((tn : Int) == 1) = false := by simp [ht]
                      have HT := hid ht
                      clear hx0 ht
                      have HSG := hid (show sgC (postS (o.length + 1) tn x ch dir hour) = [.int .i64 (o.length + 1), .int .i64 (2 * (tn : Int) - 1), .int .i64 0, .int .i64 ch, .int .i64 dir, .int .i64 tn, .int .i64 hour, .int .i64 (hour + 1), .slice none 0 0] from by rw [unhid HT]; simp [postS, sgC, unhid HX0])
                      go_wp2_with (at_builtin; refine wpList_append_lies _ rfl _ _ 25 rfl w1.heap.size 34 i0 (.agg #[.int .i64 0, .int .i64 0, .int .i64 0, .int .i64 0, .int .i64 0, .int .i64 0, .int .i64 0, .int .i64 0, .slice none 0 0]) 9 88 Try.underlying25 hi hz0 hz1 hz2 rfl (by decide) _ _ _ rfl ((own_setB (unhid HO5) (unhid HNE) 1 (.int .i64 (2 * (tn : Int) - 1))).alloc _) _ 1 1 [.int .i64 (o.length + 1), .int .i64 (2 * (tn : Int) - 1), .int .i64 0, .int .i64 ch, .int .i64 dir, .int .i64 tn, .int .i64 hour, .int .i64 (hour + 1), .slice none 0 0] rfl rfl ?_ ?_ (by decide) ?_ ?_ ?_ (wc.heap.size + 1) (by simp) ?_)
                      all_goals try (first | exact World.news_of_block (heap_alloc_new _ _) | exact World.news_of_block (heap_alloc_at (by simp)) | (unfold maxLen; omega) | omega | exact ⟨rfl, rfl, rfl, rfl, rfl, rfl, rfl, rfl, rfl⟩ | (simp; omega) | (intro u hu; simp at hu; rcases hu with rfl | rfl | rfl | rfl | rfl | rfl | rfl | rfl | rfl <;> rfl))
                      intro g8 c8 w6 hown6 hg6 hat6 hlt6
                      have hb6 : Below w1.heap.size w1 w6 := by
                        refine Below.grown ((Below.setCell (unhid HB5) hw1B _).alloc (by first | omega | (simp; omega)) _) hg6 (by first | omega | (simp; omega)) (fun i hi => ?_)
                        rcases Nat.lt_or_ge i w1.heap.size with h | h
                        · exact absurd hi (own_ne (unhid HO5) (Or.inl h))
                        · exact h
                      have HO6 := hid hown6
                      clear hown6 hg6 hat6 hlt6 y0 y1 y2 y3 y4 y5 y6 y7 y8 z1 z2
                      go_wp2_with fail
                      go_roundw
                      case rel =>
                        refine ⟨m + 1, o ++ [postS (o.length + 1) tn x ch dir hour], some ⟨g8, 0, none⟩, c8, by omega, by go_num, by simp, by rw [unhid HNX], by rw [unhid HNX], ?_, hb6⟩
                        rw [show (o ++ [postS (o.length + 1) tn x ch dir hour]).length = o.length + 1 by simp, show signs (o ++ [postS (o.length + 1) tn x ch dir hour]) = signs o ++ sgC (postS (o.length + 1) tn x ch dir hour) from by simp [signs], unhid HSG]
                        exact unhid HO6
                      case measure => simp [intOf]; omega
            · obtain rfl : n = m := by omega
              have HOF := hid (show o = ppAll n js ed hour (2 * k + (j + 1)) from by rw [show 2 * k + (j + 1) = 2 * k + j + 1 from rfl, unhid HSU]; exact unhid HOE)
              clear ho
              go_wp2_with fail
              go_roundw
              case rel =>
                refine ⟨j + 1, A6, c6, by omega, by rw [unhid HDI]; go_num, by rw [unhid HOF], ?_, hbel⟩
                have := unhid HO
                rw [unhid HOF] at this
                exact this
              case measure => simp [intOf]; omega
        · obtain rfl : j = 2 := by omega
          go_wp2_with fail
          go_roundw
          case rel => exact ⟨k + 1, A6, c6, by omega, by rw [unhid HTN]; go_num, rfl, unhid HO, hbel⟩
          case measure => simp [intOf]; have := unhid HTN; omega
    · obtain rfl : k = 2 := by omega
      obtain rfl : tn = 3 := unhid HTN
      obtain ⟨A7, c7, hvv, hrd, -⟩ := own_slice (unhid HO)
      injection hvv with hv1 hv2 hv3
      subst hv1 hv3
      have HRD := hid hrd
      clear hrd HO
      have HDE := hid (show decide (((ppAll n js ed hour 4).length : Int) ≤ 100) = decide ((ppAll n js ed hour 4).length ≤ 100) from by congr 1; apply propext; omega)
      go_wp2_with fail
      go_ret2
      first
        | exact ⟨A6, c6, by rw [← unhid HDE]; rfl, unhid HRD, hbw1.trans (hbel.mono hbw1.size)⟩
        | exact ⟨A6, ⟨c6, by rw [← unhid HDE]; rfl⟩, unhid HRD, hbw1.trans (hbel.mono hbw1.size)⟩
end

section
set_option maxHeartbeats 8000000 in
set_option maxRecDepth 100000 in
theorem sameSigns_calls (A : Option Addr) (l : List Sg) (c : Nat) (A2 : Option Addr) (c2 : Nat) (w : World) (h : Rd w A (signs l)) (h2 : Rd w A2 (signs l)) (hn : l.length ≤ 100000) (hcv : ∀ s ∈ l, s.cov = []) :
    Calls Try.prog 40 #[.slice A l.length c, .slice A2 l.length c2] w fun e w' => e = .returned (.bool true) ∧ Below w.heap.size w w' := by
  have H1 := hid h
  have H2 := hid h2
  have HCV := hid hcv
  clear h h2 hcv
  have hlen' : ((l.length : Int) != (l.length : Int)) = false := by simp
  go_enter Try.func40, Try.ntmps40
  go_wp2_with fail
  go_loopw [5] (fun i wr => ∃ k : Nat, k ≤ l.length ∧ i = .int .i64 k ∧ Below w.heap.size w wr) (fun i _ => l.length - (intOf i).toNat)
  case atStart => exact ⟨0, Nat.zero_le _, rfl, Below.refl _ _⟩
  case round =>
    obtain ⟨k, hk, rfl, hbel⟩ := hrel
    by_cases hlt : k < l.length
    · obtain ⟨b, off, rfl, hb, hc⟩ := (unhid H1).below hbel (signs_ne hlt)
      obtain ⟨b2, off2, rfl, hb2, hc2⟩ := (unhid H2).below hbel (signs_ne hlt)
      obtain ⟨m0, m1, m2, m3, m4, m5, m6, m7, m8⟩ := signs_cells hc hlt
      obtain ⟨n0, n1, n2, n3, n4, n5, n6, n7, n8⟩ := signs_cells hc2 hlt
      clear hc hc2
      have hcv := unhid HCV _ (List.getElem_mem hlt)
      have hcl : l[k].cov.length = 0 := by rw [hcv]; rfl
      rw [hcl] at m8 n8
      clear hcv hcl
      generalize l[k] = x at *
      go_wp2_with fail
      go_cut [6, 7] (fun s6 s7 wz => ∃ B6 B7 : Nat, s6 = .pointer (some ⟨B6, 0, none⟩) ∧ s7 = .pointer (some ⟨B7, 0, none⟩) ∧ Below w.heap.size w wz ∧
        wz.heap[B6]? = some (.cells #[.int .i64 x.num, .int .i64 x.kind, .int .i64 x.val, .int .i64 x.chain, .int .i64 x.dir, .int .i64 x.rank, .int .i64 x.up, .int .i64 x.down, .slice x.cA 0 x.cc] 34 (0, 0)) ∧
        wz.heap[B7]? = some (.cells #[.int .i64 x.num, .int .i64 x.kind, .int .i64 x.val, .int .i64 x.chain, .int .i64 x.dir, .int .i64 x.rank, .int .i64 x.up, .int .i64 x.down, .slice x.cA 0 x.cc] 34 (0, 0)))
      case first =>
        go_region_held3 (fun w' => w'.cell? ⟨b, off + k * 9, none⟩ = some (.int .i64 x.num) ∧ w'.cell? ⟨b, off + k * 9 + 1, none⟩ = some (.int .i64 x.kind) ∧ w'.cell? ⟨b, off + k * 9 + 2, none⟩ = some (.int .i64 x.val) ∧ w'.cell? ⟨b, off + k * 9 + 3, none⟩ = some (.int .i64 x.chain) ∧ w'.cell? ⟨b, off + k * 9 + 4, none⟩ = some (.int .i64 x.dir) ∧ w'.cell? ⟨b, off + k * 9 + 5, none⟩ = some (.int .i64 x.rank) ∧ w'.cell? ⟨b, off + k * 9 + 6, none⟩ = some (.int .i64 x.up) ∧ w'.cell? ⟨b, off + k * 9 + 7, none⟩ = some (.int .i64 x.down) ∧ w'.cell? ⟨b, off + k * 9 + 8, none⟩ = some (.slice x.cA 0 x.cc) ∧
          w'.cell? ⟨b2, off2 + k * 9, none⟩ = some (.int .i64 x.num) ∧ w'.cell? ⟨b2, off2 + k * 9 + 1, none⟩ = some (.int .i64 x.kind) ∧ w'.cell? ⟨b2, off2 + k * 9 + 2, none⟩ = some (.int .i64 x.val) ∧ w'.cell? ⟨b2, off2 + k * 9 + 3, none⟩ = some (.int .i64 x.chain) ∧ w'.cell? ⟨b2, off2 + k * 9 + 4, none⟩ = some (.int .i64 x.dir) ∧ w'.cell? ⟨b2, off2 + k * 9 + 5, none⟩ = some (.int .i64 x.rank) ∧ w'.cell? ⟨b2, off2 + k * 9 + 6, none⟩ = some (.int .i64 x.up) ∧ w'.cell? ⟨b2, off2 + k * 9 + 7, none⟩ = some (.int .i64 x.down) ∧ w'.cell? ⟨b2, off2 + k * 9 + 8, none⟩ = some (.slice x.cA 0 x.cc)) (first | (refine ⟨?_, ?_, ?_, ?_, ?_, ?_, ?_, ?_, ?_, ?_, ?_, ?_, ?_, ?_, ?_, ?_, ?_, ?_⟩ <;> assumption) | go_keep) (first | fail)
        all_goals
          go_wp2_with fail
          go_meet
          case rel => exact ⟨_, _, rfl, rfl, hbel.trans (Below.mono (Below.drew (below_alloc' (below_alloc wr _) _)) hbel.size), by first | exact alloc2_new _ _ _ _ _ | exact alloc2_old _ _ _ _ _, by first | exact alloc2_new _ _ _ _ _ | exact alloc2_old _ _ _ _ _⟩
      case rest =>
        clear m0 m1 m2 m3 m4 m5 m6 m7 m8 n0 n1 n2 n3 n4 n5 n6 n7 n8 hb hb2 hbel
        obtain ⟨B6, B7, rfl, rfl, hbel, hk6, hk7⟩ := hcut
        have y0 := cell_of_row _ B6 0 _ _ _ hk6
        have y1 := cell_of_row _ B6 1 _ _ _ hk6
        have y2 := cell_of_row _ B6 2 _ _ _ hk6
        have y3 := cell_of_row _ B6 3 _ _ _ hk6
        have y4 := cell_of_row _ B6 4 _ _ _ hk6
        have y5 := cell_of_row _ B6 5 _ _ _ hk6
        have y6 := cell_of_row _ B6 6 _ _ _ hk6
        have y7 := cell_of_row _ B6 7 _ _ _ hk6
        have y8 := cell_of_row _ B6 8 _ _ _ hk6
        have z0 := cell_of_row _ B7 0 _ _ _ hk7
        have z1 := cell_of_row _ B7 1 _ _ _ hk7
        have z2 := cell_of_row _ B7 2 _ _ _ hk7
        have z3 := cell_of_row _ B7 3 _ _ _ hk7
        have z4 := cell_of_row _ B7 4 _ _ _ hk7
        have z5 := cell_of_row _ B7 5 _ _ _ hk7
        have z6 := cell_of_row _ B7 6 _ _ _ hk7
        have z7 := cell_of_row _ B7 7 _ _ _ hk7
        have z8 := cell_of_row _ B7 8 _ _ _ hk7
        simp at y0 y1 y2 y3 y4 y5 y6 y7 y8 z0 z1 z2 z3 z4 z5 z6 z7 z8
        clear hk6 hk7
        have b0 : (x.num != x.num) = false := by simp
        have b1 : (x.kind != x.kind) = false := by simp
        have b2 : (x.val != x.val) = false := by simp
        have b3 : (x.chain != x.chain) = false := by simp
        have b4 : (x.dir != x.dir) = false := by simp
        have b5 : (x.rank != x.rank) = false := by simp
        have b6 : (x.up != x.up) = false := by simp
        have b7 : (x.down != x.down) = false := by simp
        go_wp2_with fail
        go_loopw [8] (fun i wr => i = .int .i64 0 ∧ wr = wc) (fun _ _ => 0)
        case atStart => exact ⟨rfl, rfl⟩
        case round =>
          obtain ⟨rfl, rfl⟩ := hrel
          go_wp2_with fail
          go_roundw
          case rel => exact ⟨k + 1, by omega, by go_num, hbel⟩
          case measure => simp [intOf]; omega
    · go_wp2_with fail
      go_ret
      exact ⟨rfl, hbel⟩
end

section
theorem why_prop (len : Int) (js : List Int) (l : List Sg) (ed : List Ed) (hour : Int) : whyE len js l ed false true (decide (0 ≤ hour ∧ hour ≤ 10000000)) = allE len js [] ed hour := by
  unfold whyE allE
  rw [sgsB_nil]
  by_cases hh : 0 ≤ hour ∧ hour ≤ 10000000
  · rw [decide_eq_true hh]
    generalize lineB len js = b1
    generalize edsB len js ed = b2
    cases b1 <;> cases b2 <;> simp [hh]
  · rw [decide_eq_false hh, if_neg hh]
    generalize lineB len js = b1
    generalize edsB len js ed = b2
    cases b1 <;> cases b2 <;> simp

set_option maxHeartbeats 4000000 in
set_option maxRecDepth 100000 in
theorem proposes_calls (len : Int) (A : Option Addr) (js : List Int) (c : Nat) (A2 : Option Addr) (l : List Sg) (c2 : Nat) (A3 : Option Addr) (ed : List Ed) (c3 : Nat) (hour dir topic metre : Int) (w : World) (hl : LnOk w A js) (hs : SgsOk w A2 l) (he : EdsOk w A3 ed) (_ : I64 len) (_ : I64 hour) (_ : I64 dir) (_ : I64 topic) (_ : I64 metre) :
    Calls Try.prog 9 #[.agg #[.int .i64 len, .slice A js.length c, .slice A2 l.length c2, .slice A3 ed.length c3, .int .i64 hour, .int .i64 dir, .int .i64 topic, .int .i64 metre]] w fun e w' => e = .returned (.bool true) ∧ Below w.heap.size w w' := by
  have HL := hid hl
  have HS := hid hs
  have HE := hid he
  have hln := hl.n
  have hsn := hs.n
  have hen := he.n
  clear hl hs he
  go_enter Try.func9, Try.ntmps9
  go_wp2_with fail
  refine (heavy_calls len A js c A2 l c2 A3 ed.length c3 hour dir topic metre _ ((unhid HL).below (below_alloc _ _)) ((unhid HS).below (below_alloc _ _)) (by omega)).mono ?_
  rintro e W ⟨rfl, hb1⟩
  have HA := (Ask8.new w (.int .i64 len) (.slice A js.length c) (.slice A2 l.length c2) (.slice A3 ed.length c3) (.int .i64 hour) (.int .i64 dir) (.int .i64 topic) (.int .i64 metre) 28).below hb1
  have hbw1 : Below w.heap.size w W := (below_alloc w _).trans (hb1.mono (by simp))
  have HL := hid ((unhid HL).below hbw1)
  have HS := hid ((unhid HS).below hbw1)
  have HE := hid ((unhid HE).below hbw1)
  clear hb1
  have HBW := hid hbw1
  cases hh : heavyB len js l ed.length with
  | true =>
    clear HA
    go_wp2_with fail
    refine (first_calls _).mono ?_
    rintro e w2 ⟨rfl, hb2⟩
    go_wp2_with fail
    go_ret
    exact ⟨rfl, hbw1.trans (hb2.mono hbw1.size)⟩
  | false =>
    clear hbw1
    have hlb : ¬ heavyB len js l ed.length = true := by rw [hh]; simp
    have HH := hid hlb
    clear hh hlb
    obtain ⟨e0, e1, e2, e3, e4, e5, e6, e7⟩ := HA.cells
    go_wp2_with fail
    generalize hBB : w.heap.size = B at *
    refine (propose_calls len A js c A3 ed c3 hour _ (unhid HL) (unhid HE)).mono ?_
    rintro e w3 ⟨A4, c4, G, rfl, hz, hnz, hrd, hGl, hGc, hbel⟩
    have HZ := hid hz
    have HNZ := hid hnz
    have HRD := hid hrd
    have HGC := hid hGc
    clear hz hnz hrd hGc e0 e1 e2 e3 e4 e5 e6 e7
    have HA3 := HA.below hbel
    obtain ⟨e0, e1, e2, e3, e4, e5, e6, e7⟩ := HA3.cells
    obtain ⟨q0, q1, q2, q3, q4, q5, q6, q7⟩ := HA3.after
    have HL3 := hid ((unhid HL).below hbel)
    have HS3 := hid ((unhid HS).below hbel)
    have HE3 := hid ((unhid HE).below hbel)
    have HWA := hid (why_prop len js l ed hour)
    have hpe : propE len js ed hour = if allE len js [] ed hour ≠ 0 then allE len js [] ed hour else if 100 < (ppAll len.toNat js ed hour 4).length then 2 else 0 := rfl
    generalize hg1 : decide (0 ≤ hour ∧ hour ≤ 10000000) = g1 at *
    have G1 := hid hg1
    clear hg1
    generalize hea : allE len js [] ed hour = ea at *
    have HEA := hid hea
    clear hea
    generalize hpp : propE len js ed hour = pe at *
    clear hpp
    have KH := hid (fun (p : After w3) => (hour_calls hour p.w).mono fun _ _ h => (⟨h.1.trans (by rw [unhid G1]), h.2⟩ : _ ∧ _))
    have KY := hid (fun (p : After w3) => (why_calls len A js c A2 l c2 A3 ed c3 hour dir topic metre false true g1 p.w ((unhid HL3).below p.below) ((unhid HS3).below p.below) ((unhid HE3).below p.below)).mono fun _ _ h => (⟨h.1.trans (by rw [unhid HWA]), h.2⟩ : _ ∧ _))
    clear HWA
    by_cases h0 : ea = 0
    · subst h0
      simp only [ne_eq, not_true, if_false] at hpe
      have hv := allE_zero' (unhid HEA)
      obtain ⟨n, rfl⟩ := Int.eq_ofNat_of_zero_le (show 0 ≤ len by have := (lineB_len hv.1).1; omega)
      rw [show ((n : Int)).toNat = n from rfl] at hpe HZ
      have hed50 := edsB_len hv.2.2.1
      have KC := hid (fun w (hl : LnOk w A js) (he : EdsOk w A3 ed) => rpropose_calls n A js c A3 ed c3 hour w hl he.rd hv.1 (by omega) hv.2.2.2)
      have hpl := ppAll_len n js ed hour 4
      have hpl2 := (lineB_len hv.1).2
      have HPC := hid (ppAll_cov n js ed hour 4)
      clear hv
      generalize ppAll n js ed hour 4 = PP at *
      by_cases hbig : 100 < PP.length
      · rw [if_pos hbig] at hpe
        have hle : decide (PP.length ≤ 100) = false := decide_eq_false (by omega)
        subst hpe
        have hG := unhid HNZ (by omega)
        subst hG
        clear HZ HNZ
        go_wp2_with fail
        (refine wp_region_below (by kernel_rfl) (by kernel_rfl) ?_; (repeat (go_big_quiet_step (first | (go_at_call 16; exact Calls.after_same ((unhid KH) _)) | (go_at_call 15; exact Calls.after_of ((unhid KY) _))))); refine wpQuiet_nil ?_; intro wq hw'; obtain ⟨⟨wq2, hbq⟩, hw''⟩ := hw'; dsimp only at hw''; subst hw'')
        clear q0 q1 q2 q3 q4 q5 q6 q7 e0 e1 e2 e3 e4 e5 e6 e7
        have hbel3 : Below W.heap.size W wq := hbel.trans (hbq.mono hbel.size)
        obtain ⟨e0, e1, e2, e3, e4, e5, e6, e7⟩ := (HA.below hbel3).cells
        have HRD := hid ((unhid HRD).below hbq)
        have HBL3 := hid hbel3
        go_wp2_with fail
        refine ((unhid KC) _ ((unhid HL).below (unhid HBL3)) ((unhid HE).below (unhid HBL3))).mono ?_
        rintro e w5 ⟨A6, c6, rfl, hrd6, hb5⟩
        clear hrd6
        rw [hle]
        go_wp2_with fail
        refine (sameSigns_calls A4 [] c4 none 0 _ (Rd.nil _ _) (Rd.nil _ _) (by simp) (by intro s h; cases h)).mono ?_
        rintro e w6 ⟨rfl, hb6⟩
        go_wp2_with fail
        refine (first_calls _).mono ?_
        rintro e w7 ⟨rfl, hb7⟩
        go_wp2_with fail
        go_ret
        have hW := unhid HBW
        have h5 := (unhid HBL3).trans (hb5.mono (unhid HBL3).size)
        have h6 := h5.trans (hb6.mono h5.size)
        have h7 := h6.trans (hb7.mono h6.size)
        exact ⟨rfl, by rw [hBB]; exact hW.trans (h7.mono (by rw [← hBB]; exact (hBB ▸ hW).size))⟩
      · rw [if_neg hbig] at hpe
        have hle : decide (PP.length ≤ 100) = true := decide_eq_true (by omega)
        subst hpe
        have hG := unhid HZ rfl
        subst hG
        clear HZ HNZ
        go_wp2_with fail
        (refine wp_region_below (by kernel_rfl) (by kernel_rfl) ?_; (repeat (go_big_quiet_step (first | (go_at_call 16; exact Calls.after_same ((unhid KH) _)) | (go_at_call 15; exact Calls.after_of ((unhid KY) _))))); refine wpQuiet_nil ?_; intro wq hw'; obtain ⟨⟨wq2, hbq⟩, hw''⟩ := hw'; dsimp only at hw''; subst hw'')
        clear q0 q1 q2 q3 q4 q5 q6 q7 e0 e1 e2 e3 e4 e5 e6 e7
        have hbel3 : Below W.heap.size W wq := hbel.trans (hbq.mono hbel.size)
        obtain ⟨e0, e1, e2, e3, e4, e5, e6, e7⟩ := (HA.below hbel3).cells
        have HRD := hid ((unhid HRD).below hbq)
        have HBL3 := hid hbel3
        go_wp2_with fail
        refine ((unhid KC) _ ((unhid HL).below (unhid HBL3)) ((unhid HE).below (unhid HBL3))).mono ?_
        rintro e w5 ⟨A6, c6, rfl, hrd6, hb5⟩
        have HRD6 := hid hrd6
        have HRD := hid ((unhid HRD).below hb5)
        clear hrd6
        rw [hle]
        go_wp2_with fail
        refine (sameSigns_calls A4 G c4 A6 c6 _ (unhid HRD) (unhid HRD6) (by omega) (unhid HGC)).mono ?_
        rintro e w6 ⟨rfl, hb6⟩
        go_wp2_with fail
        refine (first_calls _).mono ?_
        rintro e w7 ⟨rfl, hb7⟩
        go_wp2_with fail
        go_ret
        have hW := unhid HBW
        have h5 := (unhid HBL3).trans (hb5.mono (unhid HBL3).size)
        have h6 := h5.trans (hb6.mono h5.size)
        have h7 := h6.trans (hb7.mono h6.size)
        exact ⟨rfl, by rw [hBB]; exact hW.trans (h7.mono (by rw [← hBB]; exact (hBB ▸ hW).size))⟩
    · have h0' : (ea == 0) = false := by simpa using h0
      have hee : (ea == ea) = true := by simp
      rw [if_pos h0] at hpe
      subst hpe
      have hG := unhid HNZ h0
      subst hG
      have H0 := hid h0
      clear HNZ HZ hGl h0
      have HBL3 := hid hbel
      go_wp2_with fail
      (refine wp_region_below (by kernel_rfl) (by kernel_rfl) ?_; (repeat (go_big_quiet_step (first | (go_at_call 16; exact Calls.after_same ((unhid KH) _)) | (go_at_call 15; exact Calls.after_of ((unhid KY) _))))); refine wpQuiet_nil ?_; intro wq hw'; obtain ⟨⟨wq2, hbq⟩, hw''⟩ := hw'; dsimp only at hw''; subst hw'')
      clear q0 q1 q2 q3 q4 q5 q6 q7 e0 e1 e2 e3 e4 e5 e6 e7
      go_wp2_with fail
      refine (sameSigns_calls A4 [] c4 none 0 _ (Rd.nil _ _) (Rd.nil _ _) (by simp) (by intro s h; cases h)).mono ?_
      rintro e w6 ⟨rfl, hb6⟩
      go_wp2_with fail
      refine (first_calls _).mono ?_
      rintro e w7 ⟨rfl, hb7⟩
      go_wp2_with fail
      go_ret
      have hW := unhid HBW
      have h5 := (unhid HBL3).trans (hbq.mono (unhid HBL3).size)
      have h6 := h5.trans (hb6.mono h5.size)
      have h7 := h6.trans (hb7.mono h6.size)
      exact ⟨rfl, by rw [hBB]; exact hW.trans (h7.mono (by rw [← hBB]; exact (hBB ▸ hW).size))⟩
end

end Go.Proofs.Ytmpngoejnmlmbaa
