/-
  The reference's idle. The reference's codes. The reference's Faults.
-/
import Derived.Test.YtmpngoejnmlmbaaFaultM
import Derived.Test.YtmpngoejnmlmbaaHolding
import Derived.Test.YtmpngoejnmlmbaaKitB
import Derived.Test.YtmpngoejnmlmbaaRefRow
import Derived.Test.YtmpngoejnmlmbaaHolds2
import Derived.Deep.DeepCutAuto
set_option linter.unusedSimpArgs false
set_option linter.unusedVariables false
namespace Go.Proofs.Ytmpngoejnmlmbaa
open Go.RowKit

section
set_option maxHeartbeats 8000000 in
set_option maxRecDepth 100000 in
theorem ridle_calls (len : Int) (A : Option Addr) (js : List Int) (c : Nat) (A2 : Option Addr) (R : List Sg) (c2 : Nat) (s : Sg) (w : World) (hl : LnOk w A js) (hj : ∀ j ∈ js, 0 ≤ j ∧ j ≤ len) (hlen : len ≤ 100000)
    (hr : Rd w A2 (signs R)) (hn : R.length ≤ 100000000000) (hok : RowSg len R) (hch : 0 ≤ s.chain ∧ s.chain ≤ len) :
    Calls Try.prog 106 #[.agg #[.int .i64 len, .slice A js.length c], .slice A2 R.length c2, .agg #[.int .i64 s.num, .int .i64 s.kind, .int .i64 s.val, .int .i64 s.chain, .int .i64 s.dir, .int .i64 s.rank, .int .i64 s.up, .int .i64 s.down, .slice s.cA s.cov.length s.cc]] w fun e w' =>
      e = .returned (.bool (ridleB len js (mtl len s.dir R) s (distI len s.dir s.chain))) ∧ Below w.heap.size w w' := by
  have HL := hid hl
  have HJ := hid hj
  have HR := hid hr
  have HOK := hid hok
  have hd0 : 0 ≤ distI len s.dir s.chain ∧ distI len s.dir s.chain ≤ len := by unfold distI; split <;> omega
  clear hl hj hr hok
  go_enter Try.func106, Try.ntmps106
  go_wp2_with fail
  refine (rdistance_calls len A js.length c s.dir s.chain _ hch.1 hch.2 hlen).mono ?_
  rintro e w1 ⟨rfl, hw1⟩
  generalize hd : distI len s.dir s.chain = d at *
  have h0 : w1.heap[w.heap.size]? = some (.cells #[.int .i64 len, .slice A js.length c] 24 (0, 0)) := by
    rw [hw1, Below.heap_alloc _ _ _ (by simp; omega), Below.heap_alloc _ _ _ (by simp)]; exact heap_alloc_new w _
  have h1 : w1.heap[w.heap.size + 1]? = some (.cells #[.int .i64 s.num, .int .i64 s.kind, .int .i64 s.val, .int .i64 s.chain, .int .i64 s.dir, .int .i64 s.rank, .int .i64 s.up, .int .i64 s.down, .slice s.cA s.cov.length s.cc] 34 (0, 0)) := by
    rw [hw1, Below.heap_alloc _ _ _ (by simp)]
    have h := heap_alloc_new (w.alloc (.cells #[.int .i64 len, .slice A js.length c] 24)) (.cells #[.int .i64 s.num, .int .i64 s.kind, .int .i64 s.val, .int .i64 s.chain, .int .i64 s.dir, .int .i64 s.rank, .int .i64 s.up, .int .i64 s.down, .slice s.cA s.cov.length s.cc] 34)
    rwa [show (w.alloc (.cells #[.int .i64 len, .slice A js.length c] 24)).heap.size = w.heap.size + 1 from by simp] at h
  have hbw1 : Below w.heap.size w w1 := by rw [hw1]; exact below_alloc' (below_alloc' (below_alloc w _) _) _
  have hB1 : w.heap.size + 2 ≤ w1.heap.size := by rw [hw1]; simp
  have HB := hid (And.intro h0 h1)
  have HBW := hid hbw1
  have HDD := hid hd
  clear hw1 h0 h1 hbw1 hd
  have CF := hid (fun (wr : World) (hb : Below w1.heap.size w1 wr) => (show wr.cell? ⟨w.heap.size, 0, none⟩ = some (.int .i64 len) ∧ wr.cell? ⟨w.heap.size, 1, none⟩ = some (.slice A js.length c) ∧ wr.cell? ⟨w.heap.size + 1, 0, none⟩ = some (.int .i64 s.num) ∧ wr.cell? ⟨w.heap.size + 1, 1, none⟩ = some (.int .i64 s.kind) ∧ wr.cell? ⟨w.heap.size + 1, 2, none⟩ = some (.int .i64 s.val) ∧ wr.cell? ⟨w.heap.size + 1, 3, none⟩ = some (.int .i64 s.chain) ∧ wr.cell? ⟨w.heap.size + 1, 4, none⟩ = some (.int .i64 s.dir) ∧ wr.cell? ⟨w.heap.size + 1, 5, none⟩ = some (.int .i64 s.rank) ∧ wr.cell? ⟨w.heap.size + 1, 6, none⟩ = some (.int .i64 s.up) ∧ wr.cell? ⟨w.heap.size + 1, 7, none⟩ = some (.int .i64 s.down) ∧ wr.cell? ⟨w.heap.size + 1, 8, none⟩ = some (.slice s.cA s.cov.length s.cc) from by
    have g0 := (hb.block w.heap.size (by omega)).trans (unhid HB).1
    have g1 := (hb.block (w.heap.size + 1) (by omega)).trans (unhid HB).2
    refine ⟨?_, ?_, ?_, ?_, ?_, ?_, ?_, ?_, ?_, ?_, ?_⟩
    · rw [cell_of_row _ _ _ _ _ _ g0]; rfl
    · rw [cell_of_row _ _ _ _ _ _ g0]; rfl
    all_goals rw [cell_of_row _ _ _ _ _ _ g1]; rfl))
  by_cases hz : d = 0
  · have hz' : (d == 0) = true := by simpa using hz
    have HZ := hid hz
    clear hz
    go_wp2_with fail
    go_ret
    exact ⟨retb (by rw [unhid HDD]; simp [ridleB, unhid HZ]), unhid HBW⟩
  · have hz' : (d == 0) = false := by simpa using hz
    have HZ := hid hz
    have hs1 : IntKind.i64.wrap (d - 1) = d - 1 := IntWalk.i64_in _ (by omega)
    have HN := hid (fun t (hb : Below w1.heap.size w1 t) => (show LnOk t A js ∧ Rd t A2 (signs R) from ⟨(unhid HL).below ((unhid HBW).trans (hb.mono (unhid HBW).size)), (unhid HR).below ((unhid HBW).trans (hb.mono (unhid HBW).size))⟩))
    have KH := hid (fun (t : Int) (W : World) (hb : Below w1.heap.size w1 W) => holding_calls len A js c A2 R c2 s.dir t (d - 1) W ((unhid HN) W hb).1 (unhid HJ) hlen ((unhid HN) W hb).2 hn (unhid HOK) (by omega) (by omega))
    clear hz
    go_wp2_with fail
    go_loopw [8] (fun i wr => ∃ k : Nat, k ≤ 2 ∧ i = .int .i64 ((k + 1 : Nat) : Int) ∧ (1 ≤ k → endsB len js (mtl len s.dir R) s d 1 = false) ∧ (2 ≤ k → endsB len js (mtl len s.dir R) s d 2 = false) ∧ Below w1.heap.size w1 wr) (fun i _ => 3 - (intOf i).toNat)
    case atStart => exact ⟨0, by omega, rfl, fun h => absurd h (by omega), fun h => absurd h (by omega), Below.refl _ _⟩
    case round =>
      obtain ⟨k, hk, rfl, hc1, hc2, hbel⟩ := hrel
      have HC1 := hid hc1
      have HC2 := hid hc2
      clear hc1 hc2
      obtain ⟨f0, f1, y0, y1, y2, y3, y4, y5, y6, y7, y8⟩ := (unhid CF) wr hbel
      rcases (show k = 0 ∨ k = 1 ∨ k = 2 by omega) with rfl | rfl | rfl
      · rw [show (((0 + 1 : Nat)) : Int) = 1 from rfl]
        go_wp2_with fail
        refine (end_calls s 1 _).mono ?_
        rintro e w2 ⟨rfl, hb2⟩
        have hbel2 := hbel.trans (hb2.mono hbel.size)
        clear f0 f1 y0 y1 y2 y3 y4 y5 y6 y7 y8
        obtain ⟨f0, f1, y0, y1, y2, y3, y4, y5, y6, y7, y8⟩ := (unhid CF) w2 hbel2
        cases he : endB s 1 with
        | false =>
          have HE := hid (show endsB len js (mtl len s.dir R) s d 1 = false from by rw [endsB, he]; rfl)
          clear he
          go_wp2_with fail
          go_roundw
          case rel => exact ⟨0 + 1, by omega, by go_num, fun _ => unhid HE, fun h => absurd h (by omega), hbel2⟩
          case measure => simp [intOf]
        | true =>
          have HEE := hid he
          clear he
          go_wp2_with fail
          refine ((unhid KH) 1 _ hbel2).mono ?_
          rintro e w3 ⟨rfl, hb3⟩
          have hbel3 := hbel2.trans (hb3.mono hbel2.size)
          generalize hv : holdP len js (mtl len s.dir R) s.dir 1 (d - 1) = v
          have HV := hid hv
          clear hv
          by_cases hv0 : v = 0
          · have b0 : (v != 0) = false := by simpa using hv0
            have HE := hid (show endsB len js (mtl len s.dir R) s d 1 = false from by rw [endsB, unhid HEE, unhid HV, hv0]; rfl)
            clear hv0
            go_wp2_with fail
            go_roundw
            case rel => exact ⟨0 + 1, by omega, by go_num, fun _ => unhid HE, fun h => absurd h (by omega), hbel3⟩
            case measure => simp [intOf]
          · have b0 : (v != 0) = true := by simpa using hv0
            have HE := hid (show endsB len js (mtl len s.dir R) s d 1 = true from by rw [endsB, unhid HEE, unhid HV, decide_eq_false hv0]; rfl)
            clear hv0
            go_wp2_with fail
            go_ret
            exact ⟨retb (by rw [unhid HDD]; simp [ridleB, unhid HZ, unhid HE]), (unhid HBW).trans (hbel3.mono (unhid HBW).size)⟩
      · rw [show (((1 + 1 : Nat)) : Int) = 2 from rfl]
        go_wp2_with fail
        refine (end_calls s 2 _).mono ?_
        rintro e w2 ⟨rfl, hb2⟩
        have hbel2 := hbel.trans (hb2.mono hbel.size)
        clear f0 f1 y0 y1 y2 y3 y4 y5 y6 y7 y8
        obtain ⟨f0, f1, y0, y1, y2, y3, y4, y5, y6, y7, y8⟩ := (unhid CF) w2 hbel2
        cases he : endB s 2 with
        | false =>
          have HE := hid (show endsB len js (mtl len s.dir R) s d 2 = false from by rw [endsB, he]; rfl)
          clear he
          go_wp2_with fail
          go_roundw
          case rel => exact ⟨1 + 1, by omega, by go_num, fun _ => unhid HC1 (by omega), fun _ => unhid HE, hbel2⟩
          case measure => simp [intOf]
        | true =>
          have HEE := hid he
          clear he
          go_wp2_with fail
          refine ((unhid KH) 2 _ hbel2).mono ?_
          rintro e w3 ⟨rfl, hb3⟩
          have hbel3 := hbel2.trans (hb3.mono hbel2.size)
          generalize hv : holdP len js (mtl len s.dir R) s.dir 2 (d - 1) = v
          have HV := hid hv
          clear hv
          by_cases hv0 : v = 0
          · have b0 : (v != 0) = false := by simpa using hv0
            have HE := hid (show endsB len js (mtl len s.dir R) s d 2 = false from by rw [endsB, unhid HEE, unhid HV, hv0]; rfl)
            clear hv0
            go_wp2_with fail
            go_roundw
            case rel => exact ⟨1 + 1, by omega, by go_num, fun _ => unhid HC1 (by omega), fun _ => unhid HE, hbel3⟩
            case measure => simp [intOf]
          · have b0 : (v != 0) = true := by simpa using hv0
            have HE := hid (show endsB len js (mtl len s.dir R) s d 2 = true from by rw [endsB, unhid HEE, unhid HV, decide_eq_false hv0]; rfl)
            clear hv0
            go_wp2_with fail
            go_ret
            exact ⟨retb (by rw [unhid HDD]; simp [ridleB, unhid HZ, unhid HE]), (unhid HBW).trans (hbel3.mono (unhid HBW).size)⟩
      · rw [show (((2 + 1 : Nat)) : Int) = 3 from rfl]
        go_wp2_with fail
        go_ret
        exact ⟨retb (by rw [unhid HDD]; simp [ridleB, unhid HZ, unhid HC1 (by omega), unhid HC2 (by omega)]), (unhid HBW).trans (hbel.mono (unhid HBW).size)⟩
end

section
def RCodesPost (n : Int) (js : List Int) (R : List Mt) (dir : Int) (i : Nat) (w : World) (e : Ending) (w' : World) : Prop :=
  ∃ (A : Option Addr) (c : Nat), e = .returned (.slice A (codeH n js R dir i).length c) ∧ Rd w' A (ints (codeH n js R dir i)) ∧ Below w.heap.size w w'
theorem rcodesPost_of {n : Int} {js : List Int} {R : List Mt} {dir : Int} {i : Nat} {w w' : World} {L : List Int} {A : Option Addr} {c : Nat} (h : codeH n js R dir i = L) (h1 : Rd w' A (ints L)) (h2 : Below w.heap.size w w') :
    RCodesPost n js R dir i w (.returned (.slice A L.length c)) w' := ⟨A, c, by rw [h], by rw [h]; exact h1, h2⟩

set_option maxHeartbeats 3000000 in
set_option maxRecDepth 100000 in
theorem rcodes_calls (n : Nat) (A : Option Addr) (js : List Int) (c : Nat) (A2 : Option Addr) (R : List Sg) (c2 : Nat) (dir : Int) (i : Nat) (w : World) (hl : LnOk w A js) (hj : ∀ j ∈ js, 0 ≤ j ∧ j ≤ n) (hn : n ≤ 100000)
    (hr : Rd w A2 (signs R)) (hRl : R.length ≤ 100000) (hok : RowSg n R) (hdir : ∀ s ∈ R, s.dir = dir) (hi : i < R.length) :
    Calls Try.prog 75 #[.agg #[.int .i64 n, .slice A js.length c], .slice A2 R.length c2, .int .i64 i] w (RCodesPost n js (mtl n dir R) dir i w) := by
  have HL := hid hl
  have HJ := hid hj
  have HR := hid hr
  have HOK := hid hok
  obtain ⟨i0, hi0, hz0, hz1, hz2⟩ := info_parts info_intB
  obtain ⟨b, off, rfl, hb, hc⟩ := hr (signs_ne hi)
  obtain ⟨m0, m1, m2, m3, m4, m5, m6, m7, m8⟩ := signs_cells hc hi
  have HPV := hid (fun q (hq : q < R.length) => (show w.cell? ⟨b, off + q * 9 + 1, none⟩ = some (.int .i64 R[q].kind) from (signs_cells hc hq).2.1))
  have HQV := hid (fun q (hq : q < R.length) => (show (mtl (n : Int) dir R)[q]? = some ⟨R[q], distI n dir R[q].chain⟩ from mtl_at hq))
  have hch := (hok R[i] (List.getElem_mem hi)).1
  have hxd := hdir R[i] (List.getElem_mem hi)
  have HCP := hid (codeH_at (n := (n : Int)) (js := js) (dir := dir) (mtl_at (len := (n : Int)) (dir := dir) hi))
  generalize R[i] = x at *
  dsimp only at HCP
  have hf : 0 ≤ distI n dir x.chain ∧ distI n dir x.chain ≤ n := by unfold distI; split <;> omega
  have KD := hid (fun (W : World) => rdistance_calls n A js.length c dir x.chain W hch.1 hch.2 (by omega))
  clear hl hj hr hok hc hdir
  have hii0 : (0 : Int) ≤ (i : Int) := by omega
  have hii1 : (i : Int) < (R.length : Int) := by omega
  go_enter Try.func75, Try.ntmps75
  rw [hxd] at m4
  go_wp2_with fail
  refine ((unhid KD) _).mono ?_
  rintro e w1 ⟨rfl, hw1⟩
  generalize hd : distI n dir x.chain = d at *
  have g0 : w1.heap[w.heap.size]? = some (.cells #[.int .i64 n, .slice A js.length c] 24 (0, 0)) := by
    rw [hw1, Below.heap_alloc _ _ _ (by simp; omega), Below.heap_alloc _ _ _ (by simp)]; exact heap_alloc_new w _
  have g1 : w1.heap[w.heap.size + 1]? = some (.cells #[.int .i64 x.num, .int .i64 x.kind, .int .i64 x.val, .int .i64 x.chain, .int .i64 dir, .int .i64 x.rank, .int .i64 x.up, .int .i64 x.down, .slice x.cA x.cov.length x.cc] 34 (0, 0)) := by
    rw [hw1, Below.heap_alloc _ _ _ (by simp)]
    have h := heap_alloc_new (w.alloc (.cells #[.int .i64 n, .slice A js.length c] 24)) (.cells #[.int .i64 x.num, .int .i64 x.kind, .int .i64 x.val, .int .i64 x.chain, .int .i64 dir, .int .i64 x.rank, .int .i64 x.up, .int .i64 x.down, .slice x.cA x.cov.length x.cc] 34)
    rwa [show (w.alloc (.cells #[.int .i64 n, .slice A js.length c] 24)).heap.size = w.heap.size + 1 from by simp] at h
  have hbw1 : Below w.heap.size w w1 := by rw [hw1]; exact below_alloc' (below_alloc' (below_alloc w _) _) _
  have hB1 : w.heap.size + 2 ≤ w1.heap.size := by rw [hw1]; simp
  have HDD := hid hd
  have HPV := hid (fun q (hq : q < R.length) => (hbw1.cell (p := ⟨b, off + q * 9 + 1, none⟩) hb).trans (unhid HPV q hq))
  have HL1 := hid ((unhid HL).below hbw1)
  have HR1 := hid ((unhid HR).below hbw1)
  have f0 := cell_of_row _ w.heap.size 0 _ _ _ g0
  have f1 := cell_of_row _ w.heap.size 1 _ _ _ g0
  have y0 := cell_of_row _ (w.heap.size + 1) 0 _ _ _ g1
  have y1 := cell_of_row _ (w.heap.size + 1) 1 _ _ _ g1
  have y2 := cell_of_row _ (w.heap.size + 1) 2 _ _ _ g1
  have y3 := cell_of_row _ (w.heap.size + 1) 3 _ _ _ g1
  have y4 := cell_of_row _ (w.heap.size + 1) 4 _ _ _ g1
  have y5 := cell_of_row _ (w.heap.size + 1) 5 _ _ _ g1
  have y6 := cell_of_row _ (w.heap.size + 1) 6 _ _ _ g1
  have y7 := cell_of_row _ (w.heap.size + 1) 7 _ _ _ g1
  have y8 := cell_of_row _ (w.heap.size + 1) 8 _ _ _ g1
  simp at f0 f1 y0 y1 y2 y3 y4 y5 y6 y7 y8
  have HBW := hid hbw1
  have hbb1 : b < w1.heap.size := by have := hbw1.size; omega
  clear hw1 hd g0 g1 hbw1 m0 m1 m2 m3 m4 m5 m6 m7 m8 HL HR KD
  rcases (show x.kind = 7 ∨ x.kind = 6 ∨ (x.kind = 2 ∨ x.kind = 4 ∨ x.kind = 5) ∨ x.kind = 1 ∨ x.kind = 3 ∨ (¬ x.kind = 7 ∧ ¬ x.kind = 6 ∧ ¬ x.kind = 2 ∧ ¬ x.kind = 4 ∧ ¬ x.kind = 5 ∧ ¬ x.kind = 1 ∧ ¬ x.kind = 3) by omega) with hk | hk | hk | hk | hk | ⟨k7, k6, k2, k4, k5, k1, k3⟩
  · have HCQ := hid (show codeH n js (mtl n dir R) dir i = codeL 1 (!mineB (mtl n dir R) i || decide ((n : Int) - d < x.val)) from by rw [unhid HCP, hk]; simp)
    rw [hk] at y1
    clear hk HCP
    have hs9 : IntKind.i64.wrap ((n : Int) - d) = (n : Int) - d := IntWalk.i64_in _ (by omega)
    by_cases h0 : i = 0
    · have HCQ := hid (show codeH n js (mtl n dir R) dir i = codeL 1 true from by rw [unhid HCQ]; simp [mineB, h0])
      have b0 : decide ((0 : Int) < (i : Int)) = false := decide_eq_false (by omega)
      have hi2 : ¬ (0 : Int) < (i : Int) := by omega
      clear h0
      go_wp2_with (at_builtin; refine wpList_append_lies _ rfl _ _ 22 rfl w.heap.size 3 i0 (.int .i64 0) 1 8 Try.underlying22 hi0 hz0 hz1 hz2 rfl (by decide) _ _ _ rfl (World.ownsRow_nil _ _ _ _) _ 1 1 [.int .i64 1] rfl rfl (World.news_of_block (cs := #[.int .i64 1]) (t := 3) (fr := (0, 0)) (heap_alloc_new _ _)) (by simp [Value.oneCell']) (by decide) (by unfold maxLen; omega) (by omega) (by have := (unhid HBW).size; simp; omega) _ rfl ?_)
      intro g8 c8 w8 hown hg _ _
      have HRD8 := hid (show Rd w8 (some ⟨g8, 0, none⟩) (ints [1]) from by
        obtain ⟨A9, c9, hv, hrd, -⟩ := own_slice hown
        injection hv with q1 q2 q3
        subst q1
        exact hrd)
      have hb8 : Below w.heap.size w w8 := Below.grown ((unhid HBW).alloc (unhid HBW).size _) hg (by have := (unhid HBW).size; simp; omega) (fun _ h => by simp [Value.ownBlock] at h)
      clear hown hg
      go_wp2_with fail
      go_ret
      exact rcodesPost_of (unhid HCQ) (unhid HRD8) hb8
    · obtain ⟨q, hq⟩ : ∃ q, i = q + 1 := ⟨i - 1, by omega⟩
      have hqR : q < R.length := by omega
      have hw1 : IntKind.i64.wrap ((i : Int) - 1) = (q : Int) := by rw [IntWalk.i64_in _ (by omega)]; omega
      have b0 : decide ((0 : Int) < (i : Int)) = true := decide_eq_true (by omega)
      have hi2 : (0 : Int) < (i : Int) := by omega
      have hq0 : (0 : Int) ≤ (q : Int) := by omega
      have hq1 : (q : Int) < (R.length : Int) := by omega
      have p1 := (unhid HPV) q hqR
      have HMB := hid (show mineB (mtl n dir R) i = (true && decide (R[q].kind = 1 ∨ R[q].kind = 3) && platedP (mtl n dir R) q) from by
        unfold mineB
        rw [show i - 1 = q by omega, unhid HQV q hqR, decide_eq_true (show 0 < i by omega)])
      generalize R[q].kind = y at *
      clear hq h0
      rcases (show y = 1 ∨ y = 3 ∨ (¬ y = 1 ∧ ¬ y = 3) by omega) with rfl | rfl | ⟨z1, z3⟩
      · have HMB := hid (show mineB (mtl n dir R) i = platedP (mtl n dir R) q from by rw [unhid HMB]; simp)
        have KP := hid (fun W hr' => rplated_calls (n : Int) dir (some ⟨b, off, none⟩) R c2 q hqR W hr' (by omega))
        generalize hpl : platedP (mtl (n : Int) dir R) q = pl at *
        have HPL := hid hpl
        clear hpl
        go_wp2_with fail
        refine ((unhid KP) _ (unhid HR1)).mono ?_
        rintro e w5 ⟨rfl, m5, rfl⟩
        cases pl with
        | false =>
          have HCQ := hid (show codeH n js (mtl n dir R) dir i = codeL 1 true from by rw [unhid HCQ, unhid HMB]; rfl)
          go_wp2_with (at_builtin; refine wpList_append_lies _ rfl _ _ 22 rfl w.heap.size 3 i0 (.int .i64 0) 1 8 Try.underlying22 hi0 hz0 hz1 hz2 rfl (by decide) _ _ _ rfl (World.ownsRow_nil _ _ _ _) _ 1 1 [.int .i64 1] rfl rfl (World.news_of_block (cs := #[.int .i64 1]) (t := 3) (fr := (0, 0)) (heap_alloc_new _ _)) (by simp [Value.oneCell']) (by decide) (by unfold maxLen; omega) (by omega) (by have := (below_drewN' (unhid HBW) m5).size; simp; omega) _ rfl ?_)
          intro g8 c8 w8 hown hg _ _
          have HRD8 := hid (show Rd w8 (some ⟨g8, 0, none⟩) (ints [1]) from by
            obtain ⟨A9, c9, hv, hrd, -⟩ := own_slice hown
            injection hv with q1 q2 q3
            subst q1
            exact hrd)
          have hb8 : Below w.heap.size w w8 := Below.grown ((below_drewN' (unhid HBW) m5).alloc (below_drewN' (unhid HBW) m5).size _) hg (by have := (below_drewN' (unhid HBW) m5).size; simp; omega) (fun _ h => by simp [Value.ownBlock] at h)
          clear hown hg
          go_wp2_with fail
          go_ret
          exact rcodesPost_of (unhid HCQ) (unhid HRD8) hb8
        | true =>
          have HCQ := hid (show codeH n js (mtl n dir R) dir i = codeL 1 (decide ((n : Int) - d < x.val)) from by rw [unhid HCQ, unhid HMB]; rfl)
          by_cases hgt : (n : Int) - d < x.val
          · have b8 := decide_eq_true hgt
            have HCQ := hid (show codeH n js (mtl n dir R) dir i = codeL 1 true from by rw [unhid HCQ, b8])
            go_wp2_with (at_builtin; refine wpList_append_lies _ rfl _ _ 22 rfl w.heap.size 3 i0 (.int .i64 0) 1 8 Try.underlying22 hi0 hz0 hz1 hz2 rfl (by decide) _ _ _ rfl (World.ownsRow_nil _ _ _ _) _ 1 1 [.int .i64 1] rfl rfl (World.news_of_block (cs := #[.int .i64 1]) (t := 3) (fr := (0, 0)) (heap_alloc_new _ _)) (by simp [Value.oneCell']) (by decide) (by unfold maxLen; omega) (by omega) (by have := (below_drewN' (unhid HBW) m5).size; simp; omega) _ rfl ?_)
            intro g8 c8 w8 hown hg _ _
            have HRD8 := hid (show Rd w8 (some ⟨g8, 0, none⟩) (ints [1]) from by
              obtain ⟨A9, c9, hv, hrd, -⟩ := own_slice hown
              injection hv with q1 q2 q3
              subst q1
              exact hrd)
            have hb8 : Below w.heap.size w w8 := Below.grown ((below_drewN' (unhid HBW) m5).alloc (below_drewN' (unhid HBW) m5).size _) hg (by have := (below_drewN' (unhid HBW) m5).size; simp; omega) (fun _ h => by simp [Value.ownBlock] at h)
            clear hown hg
            go_wp2_with fail
            go_ret
            exact rcodesPost_of (unhid HCQ) (unhid HRD8) hb8
          · have b8 := decide_eq_false hgt
            have HCQ := hid (show codeH n js (mtl n dir R) dir i = codeL 1 false from by rw [unhid HCQ, b8])
            go_wp2_with fail
            go_ret
            exact rcodesPost_of (A := none) (c := 0) (unhid HCQ) (Rd.nil _ _) (below_drewN' (unhid HBW) m5)
      · have HMB := hid (show mineB (mtl n dir R) i = platedP (mtl n dir R) q from by rw [unhid HMB]; simp)
        have KP := hid (fun W hr' => rplated_calls (n : Int) dir (some ⟨b, off, none⟩) R c2 q hqR W hr' (by omega))
        generalize hpl : platedP (mtl (n : Int) dir R) q = pl at *
        have HPL := hid hpl
        clear hpl
        go_wp2_with fail
        refine ((unhid KP) _ (unhid HR1)).mono ?_
        rintro e w5 ⟨rfl, m5, rfl⟩
        cases pl with
        | false =>
          have HCQ := hid (show codeH n js (mtl n dir R) dir i = codeL 1 true from by rw [unhid HCQ, unhid HMB]; rfl)
          go_wp2_with (at_builtin; refine wpList_append_lies _ rfl _ _ 22 rfl w.heap.size 3 i0 (.int .i64 0) 1 8 Try.underlying22 hi0 hz0 hz1 hz2 rfl (by decide) _ _ _ rfl (World.ownsRow_nil _ _ _ _) _ 1 1 [.int .i64 1] rfl rfl (World.news_of_block (cs := #[.int .i64 1]) (t := 3) (fr := (0, 0)) (heap_alloc_new _ _)) (by simp [Value.oneCell']) (by decide) (by unfold maxLen; omega) (by omega) (by have := (below_drewN' (unhid HBW) m5).size; simp; omega) _ rfl ?_)
          intro g8 c8 w8 hown hg _ _
          have HRD8 := hid (show Rd w8 (some ⟨g8, 0, none⟩) (ints [1]) from by
            obtain ⟨A9, c9, hv, hrd, -⟩ := own_slice hown
            injection hv with q1 q2 q3
            subst q1
            exact hrd)
          have hb8 : Below w.heap.size w w8 := Below.grown ((below_drewN' (unhid HBW) m5).alloc (below_drewN' (unhid HBW) m5).size _) hg (by have := (below_drewN' (unhid HBW) m5).size; simp; omega) (fun _ h => by simp [Value.ownBlock] at h)
          clear hown hg
          go_wp2_with fail
          go_ret
          exact rcodesPost_of (unhid HCQ) (unhid HRD8) hb8
        | true =>
          have HCQ := hid (show codeH n js (mtl n dir R) dir i = codeL 1 (decide ((n : Int) - d < x.val)) from by rw [unhid HCQ, unhid HMB]; rfl)
          by_cases hgt : (n : Int) - d < x.val
          · have b8 := decide_eq_true hgt
            have HCQ := hid (show codeH n js (mtl n dir R) dir i = codeL 1 true from by rw [unhid HCQ, b8])
            go_wp2_with (at_builtin; refine wpList_append_lies _ rfl _ _ 22 rfl w.heap.size 3 i0 (.int .i64 0) 1 8 Try.underlying22 hi0 hz0 hz1 hz2 rfl (by decide) _ _ _ rfl (World.ownsRow_nil _ _ _ _) _ 1 1 [.int .i64 1] rfl rfl (World.news_of_block (cs := #[.int .i64 1]) (t := 3) (fr := (0, 0)) (heap_alloc_new _ _)) (by simp [Value.oneCell']) (by decide) (by unfold maxLen; omega) (by omega) (by have := (below_drewN' (unhid HBW) m5).size; simp; omega) _ rfl ?_)
            intro g8 c8 w8 hown hg _ _
            have HRD8 := hid (show Rd w8 (some ⟨g8, 0, none⟩) (ints [1]) from by
              obtain ⟨A9, c9, hv, hrd, -⟩ := own_slice hown
              injection hv with q1 q2 q3
              subst q1
              exact hrd)
            have hb8 : Below w.heap.size w w8 := Below.grown ((below_drewN' (unhid HBW) m5).alloc (below_drewN' (unhid HBW) m5).size _) hg (by have := (below_drewN' (unhid HBW) m5).size; simp; omega) (fun _ h => by simp [Value.ownBlock] at h)
            clear hown hg
            go_wp2_with fail
            go_ret
            exact rcodesPost_of (unhid HCQ) (unhid HRD8) hb8
          · have b8 := decide_eq_false hgt
            have HCQ := hid (show codeH n js (mtl n dir R) dir i = codeL 1 false from by rw [unhid HCQ, b8])
            go_wp2_with fail
            go_ret
            exact rcodesPost_of (A := none) (c := 0) (unhid HCQ) (Rd.nil _ _) (below_drewN' (unhid HBW) m5)
      · have zz1 : (y == 1) = false := by simpa using z1
        have zz3 : (y == 3) = false := by simpa using z3
        have HCQ := hid (show codeH n js (mtl n dir R) dir i = codeL 1 true from by rw [unhid HCQ, unhid HMB]; simp [z1, z3])
        clear z1 z3
        go_wp2_with (at_builtin; refine wpList_append_lies _ rfl _ _ 22 rfl w.heap.size 3 i0 (.int .i64 0) 1 8 Try.underlying22 hi0 hz0 hz1 hz2 rfl (by decide) _ _ _ rfl (World.ownsRow_nil _ _ _ _) _ 1 1 [.int .i64 1] rfl rfl (World.news_of_block (cs := #[.int .i64 1]) (t := 3) (fr := (0, 0)) (heap_alloc_new _ _)) (by simp [Value.oneCell']) (by decide) (by unfold maxLen; omega) (by omega) (by have := (unhid HBW).size; simp; omega) _ rfl ?_)
        intro g8 c8 w8 hown hg _ _
        have HRD8 := hid (show Rd w8 (some ⟨g8, 0, none⟩) (ints [1]) from by
          obtain ⟨A9, c9, hv, hrd, -⟩ := own_slice hown
          injection hv with q1 q2 q3
          subst q1
          exact hrd)
        have hb8 : Below w.heap.size w w8 := Below.grown ((unhid HBW).alloc (unhid HBW).size _) hg (by have := (unhid HBW).size; simp; omega) (fun _ h => by simp [Value.ownBlock] at h)
        clear hown hg
        go_wp2_with fail
        go_ret
        exact rcodesPost_of (unhid HCQ) (unhid HRD8) hb8
  · have HCQ := hid (show codeH n js (mtl n dir R) dir i = codeL 2 (decide (d = n) || !decide (holdP n js (mtl n dir R) dir 1 d = x.val)) from by rw [unhid HCP, hk]; simp)
    rw [hk] at y1
    clear hk HCP
    obtain ⟨q0, q1, q2, q4⟩ : (∀ p : After w1, p.w.cell? ⟨w.heap.size, 0, none⟩ = some (.int .i64 n)) ∧ (∀ p : After w1, p.w.cell? ⟨w.heap.size, 1, none⟩ = some (.slice A js.length c)) ∧ (∀ p : After w1, p.w.cell? ⟨w.heap.size + 1, 2, none⟩ = some (.int .i64 x.val)) ∧ (∀ p : After w1, p.w.cell? ⟨w.heap.size + 1, 4, none⟩ = some (.int .i64 dir)) :=
      ⟨After.cell (by dsimp only; omega) f0, After.cell (by dsimp only; omega) f1, After.cell (by dsimp only; omega) y2, After.cell (by dsimp only; omega) y4⟩
    by_cases hp : d = (n : Int)
    · have b9 : (d == (n : Int)) = true := by simpa using hp
      have HCQ := hid (show codeH n js (mtl n dir R) dir i = codeL 2 true from by rw [unhid HCQ, decide_eq_true hp]; rfl)
      clear hp
      go_wp2_with fail
      (refine wp_region_below (by kernel_rfl) (by kernel_rfl) ?_; (repeat (go_big_quiet_step (first | fail))); refine wpQuiet_nil ?_; intro wq hw'; obtain ⟨⟨wq2, hbq⟩, hw''⟩ := hw'; dsimp only at hw''; subst hw'')
      have HBQ := hid ((unhid HBW).trans (hbq.mono (unhid HBW).size))
      go_wp2_with (at_builtin; refine wpList_append_lies _ rfl _ _ 22 rfl w.heap.size 3 i0 (.int .i64 0) 1 8 Try.underlying22 hi0 hz0 hz1 hz2 rfl (by decide) _ _ _ rfl (World.ownsRow_nil _ _ _ _) _ 1 1 [.int .i64 2] rfl rfl (World.news_of_block (cs := #[.int .i64 2]) (t := 3) (fr := (0, 0)) (heap_alloc_new _ _)) (by simp [Value.oneCell']) (by decide) (by unfold maxLen; omega) (by omega) (by have := (unhid HBQ).size; simp; omega) _ rfl ?_)
      intro g8 c8 w8 hown hg _ _
      have HRD8 := hid (show Rd w8 (some ⟨g8, 0, none⟩) (ints [2]) from by
        obtain ⟨A9, c9, hv, hrd, -⟩ := own_slice hown
        injection hv with q1 q2 q3
        subst q1
        exact hrd)
      have hb8 : Below w.heap.size w w8 := Below.grown ((unhid HBQ).alloc (unhid HBQ).size _) hg (by have := (unhid HBQ).size; simp; omega) (fun _ h => by simp [Value.ownBlock] at h)
      clear hown hg
      go_wp2_with fail
      go_ret
      exact rcodesPost_of (unhid HCQ) (unhid HRD8) hb8
    · have b9 : (d == (n : Int)) = false := by simpa using hp
      have HCQ := hid (show codeH n js (mtl n dir R) dir i = codeL 2 (!decide (holdP n js (mtl n dir R) dir 1 d = x.val)) from by rw [unhid HCQ, decide_eq_false hp]; rfl)
      have KHo := hid (fun p : After w1 => holding_calls n A js c (some ⟨b, off, none⟩) R c2 dir 1 d p.w ((unhid HL1).below p.below) (unhid HJ) (by omega) ((unhid HR1).below p.below) (by omega) (unhid HOK) hf.1 (by omega))
      clear hp
      generalize hv : holdP n js (mtl n dir R) dir 1 d = v at *
      clear hv
      by_cases hvv : v = x.val
      · have b8 : (v != x.val) = false := by simpa using hvv
        have HCQ := hid (show codeH n js (mtl n dir R) dir i = codeL 2 false from by rw [unhid HCQ, decide_eq_true hvv]; rfl)
        clear hvv
        go_wp2_with fail
        (refine wp_region_below (by kernel_rfl) (by kernel_rfl) ?_; (repeat (go_big_quiet_step (first | (go_at_call 63; exact Calls.after_of ((unhid KHo) _))))); refine wpQuiet_nil ?_; intro wq hw'; obtain ⟨⟨wq2, hbq⟩, hw''⟩ := hw'; dsimp only at hw''; subst hw'')
        have HBQ := hid ((unhid HBW).trans (hbq.mono (unhid HBW).size))
        go_wp2_with fail
        go_ret
        exact rcodesPost_of (A := none) (c := 0) (unhid HCQ) (Rd.nil _ _) (unhid HBQ)
      · have b8 : (v != x.val) = true := by simpa using hvv
        have HCQ := hid (show codeH n js (mtl n dir R) dir i = codeL 2 true from by rw [unhid HCQ, decide_eq_false hvv]; rfl)
        clear hvv
        go_wp2_with fail
        (refine wp_region_below (by kernel_rfl) (by kernel_rfl) ?_; (repeat (go_big_quiet_step (first | (go_at_call 63; exact Calls.after_of ((unhid KHo) _))))); refine wpQuiet_nil ?_; intro wq hw'; obtain ⟨⟨wq2, hbq⟩, hw''⟩ := hw'; dsimp only at hw''; subst hw'')
        have HBQ := hid ((unhid HBW).trans (hbq.mono (unhid HBW).size))
        go_wp2_with (at_builtin; refine wpList_append_lies _ rfl _ _ 22 rfl w.heap.size 3 i0 (.int .i64 0) 1 8 Try.underlying22 hi0 hz0 hz1 hz2 rfl (by decide) _ _ _ rfl (World.ownsRow_nil _ _ _ _) _ 1 1 [.int .i64 2] rfl rfl (World.news_of_block (cs := #[.int .i64 2]) (t := 3) (fr := (0, 0)) (heap_alloc_new _ _)) (by simp [Value.oneCell']) (by decide) (by unfold maxLen; omega) (by omega) (by have := (unhid HBQ).size; simp; omega) _ rfl ?_)
        intro g8 c8 w8 hown hg _ _
        have HRD8 := hid (show Rd w8 (some ⟨g8, 0, none⟩) (ints [2]) from by
          obtain ⟨A9, c9, hv, hrd, -⟩ := own_slice hown
          injection hv with q1 q2 q3
          subst q1
          exact hrd)
        have hb8 : Below w.heap.size w w8 := Below.grown ((unhid HBQ).alloc (unhid HBQ).size _) hg (by have := (unhid HBQ).size; simp; omega) (fun _ h => by simp [Value.ownBlock] at h)
        clear hown hg
        go_wp2_with fail
        go_ret
        exact rcodesPost_of (unhid HCQ) (unhid HRD8) hb8
  · have HCQ := hid (show codeH n js (mtl n dir R) dir i = codeL 3 (ridleB n js (mtl n dir R) x d) from by rw [unhid HCP, if_neg (by omega), if_neg (by omega), if_pos hk])
    clear HCP
    have KI := hid (fun (W : World) (hb : Below w1.heap.size w1 W) => ridle_calls n A js c (some ⟨b, off, none⟩) R c2 x W ((unhid HL1).below hb) (unhid HJ) (by omega) ((unhid HR1).below hb) (by omega) (unhid HOK) hch)
    rw [hxd, unhid HDD] at KI
    generalize hri : ridleB n js (mtl n dir R) x d = rb at *
    have HRI := hid hri
    clear hri
    rcases hk with hk | hk | hk
    all_goals
      rw [hk] at y1 KI
      clear hk
      go_wp2_with fail
      refine ((unhid KI) _ (Below.refl _ _)).mono ?_
      rintro e w2 ⟨rfl, hb2⟩
      have HBW2 := hid ((unhid HBW).trans (hb2.mono (unhid HBW).size))
      cases rb with
      | true =>
        go_wp2_with (at_builtin; refine wpList_append_lies _ rfl _ _ 22 rfl w.heap.size 3 i0 (.int .i64 0) 1 8 Try.underlying22 hi0 hz0 hz1 hz2 rfl (by decide) _ _ _ rfl (World.ownsRow_nil _ _ _ _) _ 1 1 [.int .i64 3] rfl rfl (World.news_of_block (cs := #[.int .i64 3]) (t := 3) (fr := (0, 0)) (heap_alloc_new _ _)) (by simp [Value.oneCell']) (by decide) (by unfold maxLen; omega) (by omega) (by have := (unhid HBW2).size; simp; omega) _ rfl ?_)
        intro g8 c8 w8 hown hg _ _
        have HRD8 := hid (show Rd w8 (some ⟨g8, 0, none⟩) (ints [3]) from by
          obtain ⟨A9, c9, hv, hrd, -⟩ := own_slice hown
          injection hv with q1 q2 q3
          subst q1
          exact hrd)
        have hb8 : Below w.heap.size w w8 := Below.grown ((unhid HBW2).alloc (unhid HBW2).size _) hg (by have := (unhid HBW2).size; simp; omega) (fun _ h => by simp [Value.ownBlock] at h)
        clear hown hg
        go_wp2_with fail
        go_ret
        exact rcodesPost_of (unhid HCQ) (unhid HRD8) hb8
      | false =>
        go_wp2_with fail
        go_ret
        exact rcodesPost_of (A := none) (c := 0) (unhid HCQ) (Rd.nil _ _) (unhid HBW2)
  · have HCQ := hid (show codeH n js (mtl n dir R) dir i = codeL 4 (decide (d = n)) from by rw [unhid HCP, hk]; simp)
    rw [hk] at y1
    clear hk HCP
    by_cases hp : d = (n : Int)
    · have b9 : (d == (n : Int)) = true := by simpa using hp
      have HCQ := hid (show codeH n js (mtl n dir R) dir i = codeL 4 true from by rw [unhid HCQ, decide_eq_true hp])
      clear hp
      go_wp2_with (at_builtin; refine wpList_append_lies _ rfl _ _ 22 rfl w.heap.size 3 i0 (.int .i64 0) 1 8 Try.underlying22 hi0 hz0 hz1 hz2 rfl (by decide) _ _ _ rfl (World.ownsRow_nil _ _ _ _) _ 1 1 [.int .i64 4] rfl rfl (World.news_of_block (cs := #[.int .i64 4]) (t := 3) (fr := (0, 0)) (heap_alloc_new _ _)) (by simp [Value.oneCell']) (by decide) (by unfold maxLen; omega) (by omega) (by have := (unhid HBW).size; simp; omega) _ rfl ?_)
      intro g8 c8 w8 hown hg _ _
      have HRD8 := hid (show Rd w8 (some ⟨g8, 0, none⟩) (ints [4]) from by
        obtain ⟨A9, c9, hv, hrd, -⟩ := own_slice hown
        injection hv with q1 q2 q3
        subst q1
        exact hrd)
      have hb8 : Below w.heap.size w w8 := Below.grown ((unhid HBW).alloc (unhid HBW).size _) hg (by have := (unhid HBW).size; simp; omega) (fun _ h => by simp [Value.ownBlock] at h)
      clear hown hg
      go_wp2_with fail
      go_ret
      exact rcodesPost_of (unhid HCQ) (unhid HRD8) hb8
    · have b9 : (d == (n : Int)) = false := by simpa using hp
      have HCQ := hid (show codeH n js (mtl n dir R) dir i = codeL 4 false from by rw [unhid HCQ, decide_eq_false hp])
      clear hp
      go_wp2_with fail
      go_ret
      exact rcodesPost_of (A := none) (c := 0) (unhid HCQ) (Rd.nil _ _) (unhid HBW)
  · have HCQ := hid (show codeH n js (mtl n dir R) dir i = codeL 4 (decide (d = n)) from by rw [unhid HCP, hk]; simp)
    rw [hk] at y1
    clear hk HCP
    by_cases hp : d = (n : Int)
    · have b9 : (d == (n : Int)) = true := by simpa using hp
      have HCQ := hid (show codeH n js (mtl n dir R) dir i = codeL 4 true from by rw [unhid HCQ, decide_eq_true hp])
      clear hp
      go_wp2_with (at_builtin; refine wpList_append_lies _ rfl _ _ 22 rfl w.heap.size 3 i0 (.int .i64 0) 1 8 Try.underlying22 hi0 hz0 hz1 hz2 rfl (by decide) _ _ _ rfl (World.ownsRow_nil _ _ _ _) _ 1 1 [.int .i64 4] rfl rfl (World.news_of_block (cs := #[.int .i64 4]) (t := 3) (fr := (0, 0)) (heap_alloc_new _ _)) (by simp [Value.oneCell']) (by decide) (by unfold maxLen; omega) (by omega) (by have := (unhid HBW).size; simp; omega) _ rfl ?_)
      intro g8 c8 w8 hown hg _ _
      have HRD8 := hid (show Rd w8 (some ⟨g8, 0, none⟩) (ints [4]) from by
        obtain ⟨A9, c9, hv, hrd, -⟩ := own_slice hown
        injection hv with q1 q2 q3
        subst q1
        exact hrd)
      have hb8 : Below w.heap.size w w8 := Below.grown ((unhid HBW).alloc (unhid HBW).size _) hg (by have := (unhid HBW).size; simp; omega) (fun _ h => by simp [Value.ownBlock] at h)
      clear hown hg
      go_wp2_with fail
      go_ret
      exact rcodesPost_of (unhid HCQ) (unhid HRD8) hb8
    · have b9 : (d == (n : Int)) = false := by simpa using hp
      have HCQ := hid (show codeH n js (mtl n dir R) dir i = codeL 4 false from by rw [unhid HCQ, decide_eq_false hp])
      clear hp
      go_wp2_with fail
      go_ret
      exact rcodesPost_of (A := none) (c := 0) (unhid HCQ) (Rd.nil _ _) (unhid HBW)
  · have HCQ := hid (show codeH n js (mtl n dir R) dir i = [] from by rw [unhid HCP]; simp [k7, k6, k2, k4, k5, k1, k3])
    have b7 : (x.kind == 7) = false := by simpa using k7
    have b6 : (x.kind == 6) = false := by simpa using k6
    have b2 : (x.kind == 2) = false := by simpa using k2
    have b4 : (x.kind == 4) = false := by simpa using k4
    have b5 : (x.kind == 5) = false := by simpa using k5
    have b1 : (x.kind == 1) = false := by simpa using k1
    have b3 : (x.kind == 3) = false := by simpa using k3
    clear k7 k6 k2 k4 k5 k1 k3 HCP
    go_wp2_with fail
    go_ret
    exact rcodesPost_of (A := none) (c := 0) (unhid HCQ) (Rd.nil _ _) (unhid HBW)
end

section
theorem info_faultR : (Try.prog.info? 114).map (fun i => (i.zero, i.size, i.bytes)) = some (some (.agg #[.int .i64 0, .int .i64 0]), 2, 16) := by kernel_rfl
theorem numAt_eq {R : List Sg} {n dir : Int} {k : Nat} (h : k < R.length) : numAt (mtl n dir R) k = R[k].num := by
  simp [numAt, mtl, List.getElem?_eq_getElem h]

set_option maxHeartbeats 4000000 in
set_option maxRecDepth 100000 in
theorem rfaults_calls (n : Nat) (A : Option Addr) (js : List Int) (c : Nat) (A2 : Option Addr) (l : List Sg) (c2 : Nat) (hour : Int) (w : World)
    (hl : LnOk w A js) (hs : SgsOk w A2 l) (hv : lineB n js = true) (hv2 : sgsB n js l = true) :
    Calls Try.prog 37 #[.agg #[.int .i64 n, .slice A js.length c], .slice A2 l.length c2, .int .i64 hour] w fun e w' =>
      ∃ (A' : Option Addr) (c' : Nat) (L : List (Int × Int)), e = .returned (.slice A' L.length c') ∧ L.Perm (fltAll n js l hour) ∧ L.Pairwise (fun a b => a.1 ≤ b.1) ∧ Rd w' A' (fts L) ∧ L.length ≤ 1000 ∧ Below w.heap.size w w' := by
  have HL := hid hl
  have HS := hid hs
  have hn := (lineB_len hv).2
  have HJ := hid (lineB_mem hv)
  have HCH := hid (sgsB_chain hv2)
  have HND := hid (sgsB_nodup hv2)
  have HV2 := hid hv2
  have hl100 := sgsB_len hv2
  have HFL := hid (fltD_len n js l hour)
  clear hl hs hv hv2
  obtain ⟨i0, hi, hz0, hz1, hz2⟩ := info_parts info_faultR
  go_enter Try.func37, Try.ntmps37
  go_wp2_with fail
  generalize hW : w.alloc _ = w1
  have hB1 : w.heap.size < w1.heap.size := by rw [← hW]; simp
  have d0 : w1.cell? ⟨w.heap.size, 0, none⟩ = some (.int .i64 n) := by rw [← hW]; simp [go_sem]
  have d1 : w1.cell? ⟨w.heap.size, 1, none⟩ = some (.slice A js.length c) := by rw [← hW]; simp [go_sem]
  have hbw1 : Below w.heap.size w w1 := by rw [← hW]; exact below_alloc _ _
  clear hW
  go_loopw [7, 8] (fun v d wr => ∃ (j : Nat) (A' : Option Addr) (c' : Nat) (L : List (Int × Int)), j ≤ 2 ∧ d = .int .i64 (1 - 2 * (j : Int)) ∧ v = .slice A' L.length c' ∧ (L.Perm (fltD n js l hour j) ∧ L.Pairwise (fun a b => a.1 ≤ b.1)) ∧ (Rd wr A' (fts L) ∧ L.length ≤ c' ∧ c' ≤ maxLen ∧ (A' = none → c' = 0)) ∧ Below w1.heap.size w1 wr) (fun _ d _ => (intOf d + 3).toNat)
  case atStart => exact ⟨0, none, 0, [], by omega, rfl, rfl, ⟨List.Perm.refl _, List.Pairwise.nil⟩, ⟨Rd.nil _ _, Nat.le_refl _, Nat.zero_le _, fun _ => rfl⟩, Below.refl _ _⟩
  case round =>
    obtain ⟨j, A', c', L, hj, rfl, rfl, hI, ⟨hRd, hRc, hcm, hcn⟩, hbel⟩ := hrel
    have HI := hid hI
    have HRD := hid hRd
    have HCN := hid hcn
    have HCM := hid hcm
    have hLl : L.length ≤ 200 := by have := hI.1.length_eq; have := unhid HFL j; omega
    clear hI hRd hcn hcm
    by_cases hjt : j < 2
    · have HSU := hid (fltD_succ n js l hour hjt)
      obtain ⟨dir, hdir⟩ : ∃ t : Int, t = 1 - 2 * (j : Int) := ⟨_, rfl⟩
      rw [← hdir] at HSU
      have f0 := (hbel.cell (p := ⟨w.heap.size, 0, none⟩) hB1).trans d0
      have f1 := (hbel.cell (p := ⟨w.heap.size, 1, none⟩) hB1).trans d1
      rw [← hdir]
      have hda : (-1 : Int) ≤ dir := by omega
      have hdb : dir ≤ 1 := by omega
      have HDI := hid hdir
      clear hdir
      have hbw := hbw1.trans (hbel.mono hbw1.size)
      go_wp2_with fail
      refine (rrow_calls n A js.length c A2 l c2 hour dir _ ((unhid HS).below hbw) (by omega) (by omega) (unhid HCH)).mono ?_
      rintro e w2 ⟨A4, c4, R, rfl, hrow, hrr, hb2⟩
      have hRM := rowM_ins hrow (unhid HND)
      have HRM := hid hRM
      have hRl : R.length ≤ 100 := by have := hrow.perm.length_eq; have := selS_len hour dir l; omega
      have HSG := hid (show RowSg n R from rowSg_of hrow (unhid HV2))
      have HDR := hid (show ∀ s ∈ R, s.dir = dir from fun s hs => by have := hrow.perm.subset hs; simp [selS] at this; exact this.2.1)
      have HRR := hid hrr
      have hb2w := hbel.trans (hb2.mono hbel.size)
      have HRD2 := hid ((unhid HRD).below hb2)
      clear hrow hrr HRD hbel hRM f0 f1
      go_wp2_with fail
      go_loopw [7, 10] (fun v i wr => ∃ (k : Nat) (A' : Option Addr) (c' : Nat) (L : List (Int × Int)), k ≤ R.length ∧ i = .int .i64 k ∧ v = .slice A' L.length c' ∧ (L.Perm (fltD n js l hour j ++ fltRow n js (mtl n dir R) dir k) ∧ L.Pairwise (fun a b => a.1 ≤ b.1)) ∧ (Rd wr A' (fts L) ∧ L.length ≤ c' ∧ c' ≤ maxLen ∧ (A' = none → c' = 0)) ∧ Below w2.heap.size w2 wr) (fun _ i _ => R.length - (intOf i).toNat)
      case atStart => exact ⟨0, A', c', L, Nat.zero_le _, rfl, rfl, ⟨by simpa [fltRow] using (unhid HI).1, (unhid HI).2⟩, ⟨unhid HRD2, hRc, unhid HCM, unhid HCN⟩, Below.refl _ _⟩
      case round =>
        clear HI HRD2 HCN HCM hRc hLl
        obtain ⟨k, A', c', L, hk, rfl, rfl, hI, ⟨hRd, hRc, hcm, hcn⟩, hbel2⟩ := hrel
        have HI := hid hI
        have HRD := hid hRd
        have HCN := hid hcn
        have HCM := hid hcm
        have hLl : L.length ≤ 300 := by have := hI.1.length_eq; rw [List.length_append] at this; have := unhid HFL j; have := fltRow_len n js (mtl n dir R) dir k; omega
        clear hI hRd hcn hcm
        by_cases hkt : k < R.length
        · have f0 := ((hb2w.trans (hbel2.mono hb2w.size)).cell (p := ⟨w.heap.size, 0, none⟩) hB1).trans d0
          have f1 := ((hb2w.trans (hbel2.mono hb2w.size)).cell (p := ⟨w.heap.size, 1, none⟩) hB1).trans d1
          have hbw2 := hbw1.trans ((hb2w.trans (hbel2.mono hb2w.size)).mono hbw1.size)
          have HFS := hid (fltRow_succ n js (mtl n dir R) dir k)
          have HNA := hid (numAt_eq (n := n) (dir := dir) hkt)
          have HCL := hid (codeH_len n js (mtl n dir R) dir k)
          go_wp2_with fail
          refine (rcodes_calls n A js c A4 R c4 dir k _ ((unhid HL).below hbw2) (unhid HJ) (by omega) ((unhid HRR).below hbel2) (by omega) (unhid HSG) (unhid HDR) hkt).mono ?_
          rintro e w3 ⟨A5, c5, rfl, hcs, hb3⟩
          have HRD3 := hid ((unhid HRD).below hb3)
          have hb23 := hbel2.trans (hb3.mono hbel2.size)
          obtain ⟨cs, hcse⟩ : ∃ cs, cs = codeH n js (mtl n dir R) dir k := ⟨_, rfl⟩
          rw [← hcse] at hcs HFS HCL ⊢
          have hcl := unhid HCL
          have HCS := hid hcs
          generalize hxx : (R[k]'hkt).num = x at HNA
          have HX := hid hxx
          have hna := unhid HNA
          rw [hna] at HFS
          clear hcs hcse HRD f0 f1 hxx hna
          go_wp2_with fail
          go_loopw [7, 12] (fun v i wr => ∃ (p : Nat) (A' : Option Addr) (c' : Nat) (L : List (Int × Int)), p ≤ cs.length ∧ i = .int .i64 p ∧ v = .slice A' L.length c' ∧ (L.Perm (fltD n js l hour j ++ fltRow n js (mtl n dir R) dir k ++ (cs.take p).map fun c => (x, c)) ∧ L.Pairwise (fun a b => a.1 ≤ b.1)) ∧ (Rd wr A' (fts L) ∧ L.length ≤ c' ∧ c' ≤ maxLen ∧ (A' = none → c' = 0)) ∧ Below w3.heap.size w3 wr) (fun _ i _ => cs.length - (intOf i).toNat)
          case atStart => exact ⟨0, A', c', L, Nat.zero_le _, rfl, rfl, ⟨by simpa using (unhid HI).1, (unhid HI).2⟩, ⟨unhid HRD3, hRc, unhid HCM, unhid HCN⟩, Below.refl _ _⟩
          case round =>
            clear HI HRD3 HCN HCM hRc hLl
            obtain ⟨p, A', c', L, hp, rfl, rfl, hI, ⟨hRd, hRc, hcm, hcn⟩, hbel3⟩ := hrel
            have HI := hid hI
            have HRD := hid hRd
            have HCN := hid hcn
            have HCM := hid hcm
            have hLl : L.length ≤ 400 := by have := hI.1.length_eq; rw [List.length_append, List.length_append, List.length_map, List.length_take] at this; have := unhid HFL j; have := fltRow_len n js (mtl n dir R) dir k; omega
            clear hI hRd hcn hcm
            by_cases hpt : p < cs.length
            · have HPS := hid (show (cs.take (p + 1)).map (fun c => (x, c)) = (cs.take p).map (fun c => (x, c)) ++ [(x, cs[p])] from by rw [List.take_succ_eq_append_getElem hpt, List.map_append]; rfl)
              generalize hyy : cs[p] = y at HPS
              have HY := hid hyy
              clear hyy
              go_wp2_with fail
              obtain ⟨wo, rfl⟩ : ∃ wo : World, wo = wr := ⟨_, rfl⟩
              go_loopw [13] (fun i wr => ∃ m : Nat, m ≤ L.length ∧ i = .int .i64 m ∧ (∀ j (h : j < L.length), m ≤ j → (x, y).1 < (L[j]).1) ∧ Below wo.heap.size wo wr) (fun i _ => (intOf i).toNat)
              case atStart => exact ⟨L.length, Nat.le_refl _, rfl, fun j h hj => absurd h (by omega), Below.refl _ _⟩
              case round =>
                obtain ⟨m, hm, rfl, hafter, hbelm⟩ := hrel
                have HAF := hid hafter
                clear hafter
                have hbwr : Below w3.heap.size w3 wr := hbel3.trans (hbelm.mono hbel3.size)
                have hRs := ((unhid HRR).below (hb23.trans (hbwr.mono hb23.size)))
                by_cases hm0 : 0 < m
                · obtain ⟨b, off, hA4, hb, hc⟩ := hRs (signs_ne hkt)
                  obtain ⟨g0, -⟩ := signs_cells hc hkt
                  clear hc hRs
                  rw [unhid HX] at g0
                  obtain ⟨b2, off2, hA', hb2', hc2⟩ := ((unhid HRD).below hbelm) (fts_ne (k := m - 1) (by omega))
                  obtain ⟨g1, -⟩ := fts_cells hc2 (k := m - 1) (by omega)
                  clear hc2
                  generalize hz : (L[m - 1]'(by omega)).1 = z at g1
                  have HZ := hid hz
                  clear hz
                  subst hA4
                  rw [hA']
                  have HA' := hid hA'
                  clear hA'
                  have := decide_eq_true (show 0 < m by omega)
                  have hq1 : IntKind.i64.wrap ((m : Int) - 1) = (m : Int) - 1 := IntWalk.i64_in _ (by omega)
                  have hq2 : (0 : Int) ≤ (m : Int) - 1 := by omega
                  have hq2' : (1 : Int) ≤ (m : Int) := by omega
                  have hq3 : ((m : Int) - 1).toNat = m - 1 := by omega
                  have hq4 : (m : Int) - 1 < (L.length : Int) := by omega
                  by_cases hzx : x < z
                  · have hzx' : decide (x < z) = true := by simpa using hzx
                    have HZX := hid hzx
                    clear hzx
                    go_wp2_with fail
                    go_quiet (fail)
                    go_wp2_with fail
                    go_roundw
                    case rel =>
                      refine ⟨m - 1, by omega, by go_num, fun j hj hmj => ?_, below_drewN' hbelm nq⟩
                      by_cases e : j = m - 1
                      · subst e; rw [unhid HZ]; exact unhid HZX
                      · exact unhid HAF j hj (by omega)
                    case measure => simp [intOf]; omega
                  · have hzx' : decide (x < z) = false := by simpa using hzx
                    have HZX := hid hzx
                    clear hzx
                    go_wp2_with fail
                    go_quiet (fail)
                    go_wp2_with fail
                    have HEX := hid (show ∀ h : 0 < m, (L[m - 1]'(by omega)).1 ≤ (x, y).1 from fun _ => by rw [unhid HZ]; have := unhid HZX; show z ≤ x; omega)
                    have hbz' : Below wo.heap.size wo (wr.drewN nq) := below_drewN' hbelm nq
                    generalize wr.drewN nq = wz at hbz' ⊢
                    rw [← unhid HA']
                    clear hbwr hb hb2'
                    clear g0 g1
                    have hbwz : Below w3.heap.size w3 wz := hbel3.trans (hbz'.mono hbel3.size)
                    have hRs := ((unhid HRR).below (hb23.trans (hbwz.mono hb23.size)))
                    obtain ⟨b, off, hA4, hb, hc⟩ := hRs (signs_ne hkt)
                    injection hA4 with hA4
                    injection hA4 with ea1 ea2
                    subst ea1 ea2
                    obtain ⟨z0, -⟩ := signs_cells hc hkt
                    clear hc
                    rw [unhid HX] at z0
                    obtain ⟨b3, off3, rfl, hb3, hc3⟩ := ((unhid HCS).below hbwz) (ints_ne (k := p) (by omega))
                    have z1 := hc3 p _ (ints_at cs p (by omega))
                    rw [unhid HY] at z1
                    clear hc3
                    have HRDZ := hid ((unhid HRD).below hbz')
                    have hRm : m ≤ L.length := hm
                    have hmc : m ≤ c' := by omega
                    have HTL := hid (show ((fts L).take (m * 2)).length = m * 2 by rw [List.length_take, fts_len]; omega)
                    have HMN := hid (show A' = none → m = 0 from fun h => by have := unhid HCN h; omega)
                    have HMM := hid (show m ≤ maxLen from Nat.le_trans hmc (unhid HCM))
                    have HL2 := hid (show (ftC (x, y) ++ (fts L).drop (m * 2)).length = (1 + (L.length - m)) * 2 by rw [List.length_append, List.length_drop, fts_len, show (ftC (x, y)).length = 2 from rfl]; omega)
                    have HO2 := hid (show ∀ u ∈ ftC (x, y) ++ (fts L).drop (m * 2), u.oneCell' = true from fun u hu => by
                      rcases List.mem_append.1 hu with h | h
                      · exact ftC_one (l := [(x, y)]) u (by simpa [fts] using h)
                      · exact ftC_one u (List.mem_of_mem_drop h))
                    have HCK := hid (show m * 2 < (fts L).length → c' ≠ m from fun h => by rw [fts_len] at h; omega)
                    have HDL := hid (show ((fts L).drop (m * 2)).length = (L.length - m) * 2 by rw [List.length_drop, fts_len, Nat.sub_mul])
                    have HDO := hid (show ∀ u ∈ (fts L).drop (m * 2), u.oneCell' = true from fun u hu => ftC_one u (List.mem_of_mem_drop hu))
                    go_region_held3 (fun w' => w'.cell? ⟨b, off + k * 9, none⟩ = some (.int .i64 x) ∧ w'.cell? ⟨b3, off3 + p, none⟩ = some (.int .i64 y)) (first | (refine ⟨?_, ?_⟩ <;> assumption) | go_keep | (go_split_ands; refine ⟨?_, ?_⟩ <;> (refine (hg4.cell_far _ (by first | assumption | (simp; omega)) (by simp)).trans ?_ <;> first | assumption | go_keep)) | (go_split_ands; refine ⟨?_, ?_⟩ <;> (refine (hg3.cell_far _ (by first | assumption | (simp; omega)) (by simp)).trans ?_ <;> first | assumption | go_keep))) (first | (refine step_app (by rfl) _ _ _ (by rfl) 114 i0 _ 2 16 Try.underlying59 hi hz0 hz1 hz2 rfl (by omega) (some ⟨wz.heap.size, 0, none⟩) 1 1 (ftC (x, y)) (by rfl) (rdNew wz (ftC (x, y)) 114) (by rfl) (fun h => by cases h) (Nat.le_refl _) (by unfold maxLen; omega) _ (L.length - m) (c' - m) ((fts L).drop (m * 2)) (by rfl) (((unhid HRDZ).below (Below.drew (below_alloc wz (.cells #[.int .i64 x, .int .i64 y] 114)))).cut m 2 c' (unhid HCK)) (unhid HDL) (unhid HDO) (by omega) (by unfold maxLen; omega) (by omega) ?_; intro A3' c3' w3' hr3 hle3 hcm3 hn3 hg3; have hbs3 : b < w3'.heap.size := Nat.lt_of_lt_of_le hb (Nat.le_trans (by simp) hg3.size); have hbs3' : b3 < w3'.heap.size := Nat.lt_of_lt_of_le hb3 (Nat.le_trans (by simp) hg3.size)) | (refine step_app (by rfl) _ _ _ (by rfl) 114 i0 _ 2 16 Try.underlying59 hi hz0 hz1 hz2 rfl (by omega) A' m m ((fts L).take (m * 2)) (by rfl) ((((unhid HRDZ).below (Below.drew (below_alloc wz (.cells #[.int .i64 x, .int .i64 y] 114)))).below (below_of_grown hg3)).take (m * 2)) (unhid HTL) (unhid HMN) (Nat.le_refl _) (unhid HMM) A3' (1 + (L.length - m)) c3' (ftC (x, y) ++ (fts L).drop (m * 2)) (by rfl) hr3 (unhid HL2) (unhid HO2) (Or.inr (by omega)) (by unfold maxLen; omega) (by omega) ?_; intro A4' c4' w4' hr4 hle4 hcm4 hn4 hg4))
                    have hb4 : Below wz.heap.size wz w4' := ((Below.drew (below_alloc wz (.cells #[.int .i64 x, .int .i64 y] 114))).trans ((below_of_grown hg3).mono (by simp))).trans ((below_of_grown hg4).mono (Nat.le_trans (by simp) hg3.size))
                    clear hg3 hg4 hr3
                    go_wp2_with fail
                    go_roundw
                    case rel =>
                      refine ⟨p + 1, A4', c4', L.take m ++ (x, y) :: L.drop m, by omega, by go_num, ?_, ⟨?_, ?_⟩, ⟨?_, ?_, hcm4, hn4⟩, ?_⟩
                      · rw [show (L.take m ++ (x, y) :: L.drop m).length = m + (1 + (L.length - m)) by simp; omega]
                      · rw [unhid HPS, ← List.append_assoc]; exact fins_perm (x, y) m (unhid HI).1
                      · exact fins_sorted hm (unhid HI).2 (unhid HAF) (unhid HEX)
                      · rw [fts_ins]; exact hr4
                      · rw [show (L.take m ++ (x, y) :: L.drop m).length = m + (1 + (L.length - m)) by simp; omega]; exact hle4
                      · exact hbwz.trans (hb4.mono hbwz.size)
                    case measure => simp [intOf]; omega
                · have := decide_eq_false (show ¬ (0 < m) by omega)
                  go_wp2_with fail
                  go_quiet (fail)
                  go_wp2_with fail
                  have HEX := hid (show ∀ h : 0 < m, (L[m - 1]'(by omega)).1 ≤ (x, y).1 from fun h => absurd h hm0)
                  have hbz' : Below wo.heap.size wo (wr.drewN nq) := below_drewN' hbelm nq
                  generalize wr.drewN nq = wz at hbz' ⊢
                  clear hbwr hRs
                  have hbwz : Below w3.heap.size w3 wz := hbel3.trans (hbz'.mono hbel3.size)
                  have hRs := ((unhid HRR).below (hb23.trans (hbwz.mono hb23.size)))
                  obtain ⟨b, off, hA4, hb, hc⟩ := hRs (signs_ne hkt)
                  subst hA4
                  obtain ⟨z0, -⟩ := signs_cells hc hkt
                  clear hc
                  rw [unhid HX] at z0
                  obtain ⟨b3, off3, rfl, hb3, hc3⟩ := ((unhid HCS).below hbwz) (ints_ne (k := p) (by omega))
                  have z1 := hc3 p _ (ints_at cs p (by omega))
                  rw [unhid HY] at z1
                  clear hc3
                  have HRDZ := hid ((unhid HRD).below hbz')
                  have hRm : m ≤ L.length := hm
                  have hmc : m ≤ c' := by omega
                  have HTL := hid (show ((fts L).take (m * 2)).length = m * 2 by rw [List.length_take, fts_len]; omega)
                  have HMN := hid (show A' = none → m = 0 from fun h => by have := unhid HCN h; omega)
                  have HMM := hid (show m ≤ maxLen from Nat.le_trans hmc (unhid HCM))
                  have HL2 := hid (show (ftC (x, y) ++ (fts L).drop (m * 2)).length = (1 + (L.length - m)) * 2 by rw [List.length_append, List.length_drop, fts_len, show (ftC (x, y)).length = 2 from rfl]; omega)
                  have HO2 := hid (show ∀ u ∈ ftC (x, y) ++ (fts L).drop (m * 2), u.oneCell' = true from fun u hu => by
                    rcases List.mem_append.1 hu with h | h
                    · exact ftC_one (l := [(x, y)]) u (by simpa [fts] using h)
                    · exact ftC_one u (List.mem_of_mem_drop h))
                  have HCK := hid (show m * 2 < (fts L).length → c' ≠ m from fun h => by rw [fts_len] at h; omega)
                  have HDL := hid (show ((fts L).drop (m * 2)).length = (L.length - m) * 2 by rw [List.length_drop, fts_len, Nat.sub_mul])
                  have HDO := hid (show ∀ u ∈ (fts L).drop (m * 2), u.oneCell' = true from fun u hu => ftC_one u (List.mem_of_mem_drop hu))
                  go_region_held3 (fun w' => w'.cell? ⟨b, off + k * 9, none⟩ = some (.int .i64 x) ∧ w'.cell? ⟨b3, off3 + p, none⟩ = some (.int .i64 y)) (first | (refine ⟨?_, ?_⟩ <;> assumption) | go_keep | (go_split_ands; refine ⟨?_, ?_⟩ <;> (refine (hg4.cell_far _ (by first | assumption | (simp; omega)) (by simp)).trans ?_ <;> first | assumption | go_keep)) | (go_split_ands; refine ⟨?_, ?_⟩ <;> (refine (hg3.cell_far _ (by first | assumption | (simp; omega)) (by simp)).trans ?_ <;> first | assumption | go_keep))) (first | (refine step_app (by rfl) _ _ _ (by rfl) 114 i0 _ 2 16 Try.underlying59 hi hz0 hz1 hz2 rfl (by omega) (some ⟨wz.heap.size, 0, none⟩) 1 1 (ftC (x, y)) (by rfl) (rdNew wz (ftC (x, y)) 114) (by rfl) (fun h => by cases h) (Nat.le_refl _) (by unfold maxLen; omega) _ (L.length - m) (c' - m) ((fts L).drop (m * 2)) (by rfl) (((unhid HRDZ).below (Below.drew (below_alloc wz (.cells #[.int .i64 x, .int .i64 y] 114)))).cut m 2 c' (unhid HCK)) (unhid HDL) (unhid HDO) (by omega) (by unfold maxLen; omega) (by omega) ?_; intro A3' c3' w3' hr3 hle3 hcm3 hn3 hg3; have hbs3 : b < w3'.heap.size := Nat.lt_of_lt_of_le hb (Nat.le_trans (by simp) hg3.size); have hbs3' : b3 < w3'.heap.size := Nat.lt_of_lt_of_le hb3 (Nat.le_trans (by simp) hg3.size)) | (refine step_app (by rfl) _ _ _ (by rfl) 114 i0 _ 2 16 Try.underlying59 hi hz0 hz1 hz2 rfl (by omega) A' m m ((fts L).take (m * 2)) (by rfl) ((((unhid HRDZ).below (Below.drew (below_alloc wz (.cells #[.int .i64 x, .int .i64 y] 114)))).below (below_of_grown hg3)).take (m * 2)) (unhid HTL) (unhid HMN) (Nat.le_refl _) (unhid HMM) A3' (1 + (L.length - m)) c3' (ftC (x, y) ++ (fts L).drop (m * 2)) (by rfl) hr3 (unhid HL2) (unhid HO2) (Or.inr (by omega)) (by unfold maxLen; omega) (by omega) ?_; intro A4' c4' w4' hr4 hle4 hcm4 hn4 hg4))
                  have hb4 : Below wz.heap.size wz w4' := ((Below.drew (below_alloc wz (.cells #[.int .i64 x, .int .i64 y] 114))).trans ((below_of_grown hg3).mono (by simp))).trans ((below_of_grown hg4).mono (Nat.le_trans (by simp) hg3.size))
                  clear hg3 hg4 hr3
                  go_wp2_with fail
                  go_roundw
                  case rel =>
                    refine ⟨p + 1, A4', c4', L.take m ++ (x, y) :: L.drop m, by omega, by go_num, ?_, ⟨?_, ?_⟩, ⟨?_, ?_, hcm4, hn4⟩, ?_⟩
                    · rw [show (L.take m ++ (x, y) :: L.drop m).length = m + (1 + (L.length - m)) by simp; omega]
                    · rw [unhid HPS, ← List.append_assoc]; exact fins_perm (x, y) m (unhid HI).1
                    · exact fins_sorted hm (unhid HI).2 (unhid HAF) (unhid HEX)
                    · rw [fts_ins]; exact hr4
                    · rw [show (L.take m ++ (x, y) :: L.drop m).length = m + (1 + (L.length - m)) by simp; omega]; exact hle4
                    · exact hbwz.trans (hb4.mono hbwz.size)
                  case measure => simp [intOf]; omega
            · obtain rfl : p = cs.length := by omega
              go_wp2_with fail
              go_roundw
              case rel =>
                refine ⟨k + 1, A', c', L, by omega, by go_num, rfl, ⟨?_, (unhid HI).2⟩, ⟨unhid HRD, hRc, unhid HCM, unhid HCN⟩, hb23.trans (hbel3.mono hb23.size)⟩
                rw [unhid HFS, ← List.append_assoc]
                have h := (unhid HI).1
                rwa [List.take_length] at h
              case measure => simp [intOf]; omega
        · obtain rfl : k = R.length := by omega
          go_wp2_with fail
          go_roundw
          case rel =>
            refine ⟨j + 1, A', c', L, by omega, by rw [unhid HDI]; go_num, rfl, ⟨?_, (unhid HI).2⟩, ⟨unhid HRD, hRc, unhid HCM, unhid HCN⟩, hb2w.trans (hbel2.mono hb2w.size)⟩
            rw [unhid HSU, ← unhid HRM]
            have h := (unhid HI).1
            rwa [← mtl_len n dir R] at h
          case measure => simp [intOf]; omega
    · obtain rfl : j = 2 := by omega
      go_wp2_with fail
      go_ret
      exact ⟨A', c', L, rfl, (unhid HI).1, (unhid HI).2, unhid HRD, by omega, hbw1.trans (hbel.mono hbw1.size)⟩
end

end Go.Proofs.Ytmpngoejnmlmbaa
