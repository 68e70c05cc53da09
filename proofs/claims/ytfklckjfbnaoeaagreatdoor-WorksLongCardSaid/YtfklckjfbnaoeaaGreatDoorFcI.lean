/-
  What is seen at a dot: package face.
-/
import Derived.Test.YtfklckjfbnaoeaaGreatDoorFcH
import Derived.Test.YtfklckjfbnaoeaaGreatDoorFcVal
import Derived.Test.YtfklckjfbnaoeaaGreatDoorWaP
set_option linter.unusedSimpArgs false
set_option linter.unusedVariables false
namespace Go.Proofs.YtfklckjfbnaoeaaGreatDoor
open Go.RowKit

set_option maxHeartbeats 2000000 in
set_option maxRecDepth 100000 in
theorem painted_6 (f : Fc) (A : Option Addr) (c : Nat) (x : It) (i j : Int) (w : World) (hf : fcB f = true) (hi : 0 ≤ i ∧ i < f.size) (hj : 0 ≤ j ∧ j < heiF f) (hx : itB x = true) (hk : x.kind = 6) :
    Calls Tryz.prog 302 #[.agg #[.int .i64 i, .int .i64 j, .int .i64 f.size, .int .i64 (heiF f), .int .i64 (2 * i + 1 - f.size), .int .i64 (2 * j + 1 - heiF f)], .agg #[.int .i64 f.shape, .int .i64 f.size, .int .i64 f.height, .slice A f.items.length c], .agg #[.int .i64 x.kind, .int .i64 x.colour, .int .i64 x.left, .int .i64 x.low, .int .i64 x.a, .int .i64 x.b, .string (SB x.text)]] w fun e w' =>
      e = .returned (.bool (paintB f x i j)) ∧ Below w.heap.size w w' := by
  have hp : paintB f x i j = inkB x i j := by
    unfold paintB
    rw [if_neg (by omega), if_neg (by omega), if_neg (by omega), if_neg (by omega), if_neg (by omega)]
  have HP := hid hp
  obtain ⟨s0, s1⟩ := size_bounds hf
  obtain ⟨h0, h1⟩ := heiF_bounds hf
  have HIN := hid (fun W => inText_calls x i j W hx hk (by omega) (by omega))
  rw [hk] at HIN ⊢
  clear hp hf hx hk
  go_enter Tryz.func302, Tryz.ntmps302
  go_wp2_with fail
  refine ((unhid HIN) _).mono ?_
  rintro e w2 ⟨rfl, hb2⟩
  have HB2 := hid hb2
  clear hb2
  generalize inkB x i j = q at HP
  go_wp2_with fail
  go_ret
  exact ⟨retE (unhid HP), (below_alloc' (below_alloc' (below_alloc _ _) _) _).trans ((unhid HB2).mono (by simp; omega))⟩

theorem painted_calls (f : Fc) (A : Option Addr) (c : Nat) (x : It) (i j : Int) (w : World) (hf : fcB f = true) (hi : 0 ≤ i ∧ i < f.size) (hj : 0 ≤ j ∧ j < heiF f) (hx : itB x = true) :
    Calls Tryz.prog 302 #[.agg #[.int .i64 i, .int .i64 j, .int .i64 f.size, .int .i64 (heiF f), .int .i64 (2 * i + 1 - f.size), .int .i64 (2 * j + 1 - heiF f)], .agg #[.int .i64 f.shape, .int .i64 f.size, .int .i64 f.height, .slice A f.items.length c], .agg #[.int .i64 x.kind, .int .i64 x.colour, .int .i64 x.left, .int .i64 x.low, .int .i64 x.a, .int .i64 x.b, .string (SB x.text)]] w fun e w' =>
      e = .returned (.bool (paintB f x i j)) ∧ Below w.heap.size w w' := by
  obtain ⟨k1, k2, -⟩ := it_bounds hx
  rcases (show x.kind = 1 ∨ x.kind = 2 ∨ x.kind = 3 ∨ x.kind = 4 ∨ x.kind = 5 ∨ x.kind = 6 by omega) with h | h | h | h | h | h
  · exact painted_1 f A c x i j w hf hi hj hx h
  · exact painted_2 f A c x i j w hf hi hj hx h
  · exact painted_3 f A c x i j w hf hi hj hx h
  · exact painted_4 f A c x i j w hf hi hj hx h
  · exact painted_5 f A c x i j w hf hi hj hx h
  · exact painted_6 f A c x i j w hf hi hj hx h

/-- What top returns. -/
def topR (f : Fc) (i j : Int) : Value := if partB f (2 * i + 1 - f.size) (2 * j + 1 - heiF f) then .tuple #[.int .i64 (topI f i j), .bool true] else .tuple #[.int .i64 (-1), .bool false]
theorem topR_in {f : Fc} {i j : Int} (h : partB f (2 * i + 1 - f.size) (2 * j + 1 - heiF f) = true) : topR f i j = .tuple #[.int .i64 (topI f i j), .bool true] := if_pos h
theorem topR_out {f : Fc} {i j : Int} (h : partB f (2 * i + 1 - f.size) (2 * j + 1 - heiF f) = false) : topR f i j = .tuple #[.int .i64 (-1), .bool false] := if_neg (by simp [h])

set_option maxHeartbeats 4000000 in
set_option maxRecDepth 100000 in
theorem top_calls (f : Fc) (A : Option Addr) (c : Nat) (i j : Int) (w : World) (hit : ItsOk w A f.items) (hf : fcB f = true) (hi : 0 ≤ i ∧ i < f.size) (hj : 0 ≤ j ∧ j < heiF f) :
    Calls Tryz.prog 267 #[.agg #[.int .i64 f.shape, .int .i64 f.size, .int .i64 f.height, .slice A f.items.length c], .int .i64 i, .int .i64 j] w fun e w' => e = .returned (topR f i j) ∧ Below w.heap.size w w' := by
  obtain ⟨s0, s1⟩ := size_bounds hf
  obtain ⟨h0, h1⟩ := heiF_bounds hf
  have HPA := hid (fun x W (hx : itB x = true) => painted_calls f A c x i j W hf hi hj hx)
  have HVAL := hid (items_valid hf)
  have HD := hid (paint_dot hf (by omega) (by omega) hi.2 hj.2)
  have HIT := hid hit
  have hn := hit.n
  obtain ⟨T, v, gh, gi, FM⟩ := fig_meth hf
  have hs : 1 ≤ f.shape ∧ f.shape ≤ 6 := by simp only [fcB, Bool.and_eq_true, decide_eq_true_eq] at hf; exact hf.1.1.1.1
  have hfo := fun W' => figureOf_calls f A c W' hs
  rw [FM.val] at hfo
  have HFO := hid hfo
  have HFH := hid FM.has
  have hnh := FM.nilH
  have hmh := FM.methH
  have heh := FM.entH
  have HDO := hid (fun W' => dotOf_calls f A c i j W' hf (by omega) (by omega))
  have HII := hid (show wiB 0 i (f.size - 1) = true from decide_eq_true (by omega))
  have HJJ := hid (show wiB 0 j (heiF f - 1) = true from decide_eq_true (by omega))
  clear hit hf FM hfo hs
  go_enter Tryz.func267, Tryz.ntmps267
  go_wp2_with fail
  refine ((unhid HDO) _).mono ?_
  rintro e w1 ⟨rfl, hb1⟩
  have hbw1 := (below_alloc w (.cells #[.int .i64 f.shape, .int .i64 f.size, .int .i64 f.height, .slice A f.items.length c] 214)).trans (hb1.mono (by simp))
  have g1 : ∀ n, w1.cell? ⟨w.heap.size, n, none⟩ = #[Value.int .i64 f.shape, .int .i64 f.size, .int .i64 f.height, .slice A f.items.length c][n]? := fun n => by rw [hb1.cell (p := ⟨w.heap.size, n, none⟩) (by simp), World.cell?_alloc_new]
  have hs1 : w.heap.size < w1.heap.size := Nat.lt_of_lt_of_le (by simp) hb1.size
  have c10 := g1 0
  have c11 := g1 1
  have c12 := g1 2
  have c13 := g1 3
  simp at c10 c11 c12 c13
  have HB1 := hid hbw1
  clear g1 hb1 hbw1
  go_wp2_with fail
  obtain ⟨W, hW⟩ : ∃ W, W = w1.alloc (.cells #[.int .i64 i, .int .i64 j, .int .i64 f.size, .int .i64 (heiF f), .int .i64 (2 * i + 1 - f.size), .int .i64 (2 * j + 1 - heiF f)] 406) := ⟨_, rfl⟩
  have g0 : ∀ n, W.cell? ⟨w1.heap.size, n, none⟩ = #[Value.int .i64 i, .int .i64 j, .int .i64 f.size, .int .i64 (heiF f), .int .i64 (2 * i + 1 - f.size), .int .i64 (2 * j + 1 - heiF f)][n]? := fun n => by rw [hW, World.cell?_alloc_new]
  have c00 := g0 0
  have c01 := g0 1
  have c02 := g0 2
  have c03 := g0 3
  have c04 := g0 4
  have c05 := g0 5
  simp at c00 c01 c02 c03 c04 c05
  have hB1W : Below w1.heap.size w1 W := by rw [hW]; exact below_alloc _ _
  have c10 := (hB1W.cell (p := ⟨w.heap.size, 0, none⟩) hs1).trans c10
  have c11 := (hB1W.cell (p := ⟨w.heap.size, 1, none⟩) hs1).trans c11
  have c12 := (hB1W.cell (p := ⟨w.heap.size, 2, none⟩) hs1).trans c12
  have c13 := (hB1W.cell (p := ⟨w.heap.size, 3, none⟩) hs1).trans c13
  have hsW : W.heap.size = w1.heap.size + 1 := by rw [hW]; simp
  have HBW := hid ((unhid HB1).trans (hB1W.mono (unhid HB1).size))
  rw [← hW]
  clear hW g0 hB1W
  obtain ⟨B, hBB⟩ : ∃ B, B = w.heap.size := ⟨_, rfl⟩
  obtain ⟨D, hDD⟩ : ∃ D, D = w1.heap.size := ⟨_, rfl⟩
  rw [← hBB] at c10 c11 c12 c13 hs1 ⊢
  rw [← hDD] at c00 c01 c02 c03 c04 c05 hsW hs1 ⊢
  have HBB := hid hBB
  clear hBB hDD
  obtain ⟨pb, hpb⟩ : ∃ pb, pb = partB f (2 * i + 1 - f.size) (2 * j + 1 - heiF f) := ⟨_, rfl⟩
  have HPB := hid hpb.symm
  clear hpb
  go_cut [34] (fun s34 wz => s34 = .bool (!pb) ∧ Below W.heap.size W wz)
  case first =>
    have hii := unhid HII
    have hjj := unhid HJJ
    have q00 := fun p : After W => After.cell (a := ⟨D, 0, none⟩) (by dsimp only; omega) c00 p
    have q01 := fun p : After W => After.cell (a := ⟨D, 1, none⟩) (by dsimp only; omega) c01 p
    have q02 := fun p : After W => After.cell (a := ⟨D, 2, none⟩) (by dsimp only; omega) c02 p
    have q03 := fun p : After W => After.cell (a := ⟨D, 3, none⟩) (by dsimp only; omega) c03 p
    have q04 := fun p : After W => After.cell (a := ⟨D, 4, none⟩) (by dsimp only; omega) c04 p
    have q05 := fun p : After W => After.cell (a := ⟨D, 5, none⟩) (by dsimp only; omega) c05 p
    have q10 := fun p : After W => After.cell (a := ⟨B, 0, none⟩) (by dsimp only; omega) c10 p
    have q11 := fun p : After W => After.cell (a := ⟨B, 1, none⟩) (by dsimp only; omega) c11 p
    have q12 := fun p : After W => After.cell (a := ⟨B, 2, none⟩) (by dsimp only; omega) c12 p
    have q13 := fun p : After W => After.cell (a := ⟨B, 3, none⟩) (by dsimp only; omega) c13 p
    obtain ⟨e1, e1'⟩ := w64 (n := f.size - 1) (by omega) (by omega)
    obtain ⟨e2, e2'⟩ := w64 (n := heiF f - 1) (by omega) (by omega)
    refine wp_region_below (by kernel_rfl) (by kernel_rfl) ?_
    (repeat (go_big_quiet_step (first | (go_at_call 227; exact Calls.after_same (within_b _ _ _ _)) | (go_at_call 301; exact Calls.after_of ((unhid HFO) _)) | (exact Calls.after_of ((unhid HPB) ▸ (unhid HFH) _ _ _ _ _ (unhid HD))))))
    refine wpQuiet_nil ?_
    intro wq hw'
    obtain ⟨⟨wq2, hbq⟩, hw''⟩ := hw'
    dsimp only at hw''
    subst hw''
    go_wp2_with fail
    go_meet
    case rel => exact ⟨rfl, hbq⟩
  case rest =>
    obtain ⟨rfl, hbz⟩ := hcut
    have d00 := (hbz.cell (p := ⟨D, 0, none⟩) (by dsimp only; omega)).trans c00
    have d01 := (hbz.cell (p := ⟨D, 1, none⟩) (by dsimp only; omega)).trans c01
    have d02 := (hbz.cell (p := ⟨D, 2, none⟩) (by dsimp only; omega)).trans c02
    have d03 := (hbz.cell (p := ⟨D, 3, none⟩) (by dsimp only; omega)).trans c03
    have d04 := (hbz.cell (p := ⟨D, 4, none⟩) (by dsimp only; omega)).trans c04
    have d05 := (hbz.cell (p := ⟨D, 5, none⟩) (by dsimp only; omega)).trans c05
    have d10 := (hbz.cell (p := ⟨B, 0, none⟩) (by dsimp only; omega)).trans c10
    have d11 := (hbz.cell (p := ⟨B, 1, none⟩) (by dsimp only; omega)).trans c11
    have d12 := (hbz.cell (p := ⟨B, 2, none⟩) (by dsimp only; omega)).trans c12
    have d13 := (hbz.cell (p := ⟨B, 3, none⟩) (by dsimp only; omega)).trans c13
    have hDz : D < wc.heap.size := by have := hbz.size; omega
    have hBz : B < wc.heap.size := by have := hbz.size; omega
    have HBZ := hid ((unhid HBW).trans (hbz.mono (by have := unhid HBB; omega)))
    have HIT := hid ((unhid HIT).below (unhid HBZ))
    clear hbz c00 c01 c02 c03 c04 c05 c10 c11 c12 c13
    cases pb with
    | false =>
      have HR := hid (topR_out (unhid HPB))
      go_wp2_with fail
      go_ret2
      exact ⟨by rw [unhid HR]; rfl, unhid HBZ⟩
    | true =>
      have HR := hid (topR_in (unhid HPB))
      go_wp2_with fail
      go_loopw [9] (fun s9 wr => ∃ k : Nat, k ≤ f.items.length ∧ s9 = .int .i64 ((k : Int) - 1) ∧ topI f i j = topK (fun t => paintB f t i j) f.items k ∧ Below wc.heap.size wc wr) (fun s9 _ => (intOf s9 + 1).toNat)
      case atStart => exact ⟨f.items.length, Nat.le_refl _, rfl, rfl, Below.refl _ _⟩
      case round =>
        obtain ⟨k, hk, rfl, htop, hbel⟩ := hrel
        have HTOP := hid htop
        have HBL := hid hbel
        clear htop
        cases k with
        | zero =>
          have e0 : ((0 : Nat) : Int) - 1 = -1 := rfl
          rw [e0]
          go_wp2_with fail
          go_ret2
          exact ⟨by rw [unhid HR, unhid HTOP]; rfl, (unhid HBZ).trans ((unhid HBL).mono (by have := (unhid HBZ).size; omega))⟩
        | succ k =>
          have hlt : k < f.items.length := by omega
          have e0 : ((k + 1 : Nat) : Int) - 1 = (k : Int) := by omega
          rw [e0]
          have e00 := (hbel.cell (p := ⟨D, 0, none⟩) hDz).trans d00
          have e01 := (hbel.cell (p := ⟨D, 1, none⟩) hDz).trans d01
          have e02 := (hbel.cell (p := ⟨D, 2, none⟩) hDz).trans d02
          have e03 := (hbel.cell (p := ⟨D, 3, none⟩) hDz).trans d03
          have e04 := (hbel.cell (p := ⟨D, 4, none⟩) hDz).trans d04
          have e05 := (hbel.cell (p := ⟨D, 5, none⟩) hDz).trans d05
          have e10 := (hbel.cell (p := ⟨B, 0, none⟩) hBz).trans d10
          have e11 := (hbel.cell (p := ⟨B, 1, none⟩) hBz).trans d11
          have e12 := (hbel.cell (p := ⟨B, 2, none⟩) hBz).trans d12
          have e13 := (hbel.cell (p := ⟨B, 3, none⟩) hBz).trans d13
          have hsz := hbel.size
          have HIR := hid ((unhid HIT).below hbel)
          clear hbel d00 d01 d02 d03 d04 d05 d10 d11 d12 d13
          obtain ⟨b, off, rfl, hb, hc⟩ := (unhid HIR).rd (its_ne hlt)
          obtain ⟨m0, m1, m2, m3, m4, m5, m6⟩ := its_cells hc hlt
          clear hc
          have hval := (unhid HVAL) f.items[k] (List.getElem_mem hlt)
          have hPC := fun W => (unhid HPA) f.items[k] W hval
          have HMISS := hid (fun (h : paintB f f.items[k] i j = false) => topK_miss (p := fun t => paintB f t i j) hlt h)
          have HHIT := hid (fun (h : paintB f f.items[k] i j = true) => topK_hit (p := fun t => paintB f t i j) hlt h)
          generalize f.items[k] = x at *
          have HPC := hid hPC
          clear hval hPC
          obtain ⟨q, hq⟩ : ∃ q, q = paintB f x i j := ⟨_, rfl⟩
          have HQ := hid hq.symm
          clear hq
          go_wp2_with fail
          go_cut [50] (fun s50 wz => s50 = .bool q ∧ Below wr.heap.size wr wz)
          case first =>
            have q00 := fun p : After wr => After.cell (a := ⟨D, 0, none⟩) (by dsimp only; omega) e00 p
            have q01 := fun p : After wr => After.cell (a := ⟨D, 1, none⟩) (by dsimp only; omega) e01 p
            have q02 := fun p : After wr => After.cell (a := ⟨D, 2, none⟩) (by dsimp only; omega) e02 p
            have q03 := fun p : After wr => After.cell (a := ⟨D, 3, none⟩) (by dsimp only; omega) e03 p
            have q04 := fun p : After wr => After.cell (a := ⟨D, 4, none⟩) (by dsimp only; omega) e04 p
            have q05 := fun p : After wr => After.cell (a := ⟨D, 5, none⟩) (by dsimp only; omega) e05 p
            have q10 := fun p : After wr => After.cell (a := ⟨B, 0, none⟩) (by dsimp only; omega) e10 p
            have q11 := fun p : After wr => After.cell (a := ⟨B, 1, none⟩) (by dsimp only; omega) e11 p
            have q12 := fun p : After wr => After.cell (a := ⟨B, 2, none⟩) (by dsimp only; omega) e12 p
            have q13 := fun p : After wr => After.cell (a := ⟨B, 3, none⟩) (by dsimp only; omega) e13 p
            have q20 := fun p : After wr => After.cell (a := ⟨b, off + k * 7, none⟩) hb m0 p
            have q21 := fun p : After wr => After.cell (a := ⟨b, off + k * 7 + 1, none⟩) hb m1 p
            have q22 := fun p : After wr => After.cell (a := ⟨b, off + k * 7 + 2, none⟩) hb m2 p
            have q23 := fun p : After wr => After.cell (a := ⟨b, off + k * 7 + 3, none⟩) hb m3 p
            have q24 := fun p : After wr => After.cell (a := ⟨b, off + k * 7 + 4, none⟩) hb m4 p
            have q25 := fun p : After wr => After.cell (a := ⟨b, off + k * 7 + 5, none⟩) hb m5 p
            have q26 := fun p : After wr => After.cell (a := ⟨b, off + k * 7 + 6, none⟩) hb m6 p
            refine wp_region_below (by kernel_rfl) (by kernel_rfl) ?_
            (repeat (go_big_quiet_step (first | (go_at_call 302; exact Calls.after_of ((unhid HQ) ▸ (unhid HPC) _)))))
            refine wpQuiet_nil ?_
            intro wq hw'
            obtain ⟨⟨wq2, hbq⟩, hw''⟩ := hw'
            dsimp only at hw''
            subst hw''
            go_wp2_with fail
            go_meet
            case rel => exact ⟨rfl, hbq⟩
          case rest =>
            obtain ⟨rfl, hbz⟩ := hcut
            have hbel := (unhid HBL).trans (hbz.mono hsz)
            have HBL2 := hid hbel
            clear hbz hbel
            cases q with
            | true =>
              go_wp2_with fail
              go_ret2
              exact ⟨by rw [unhid HR, unhid HTOP, (unhid HHIT) (unhid HQ)]; rfl, (unhid HBZ).trans ((unhid HBL2).mono (by have := (unhid HBZ).size; omega))⟩
            | false =>
              go_wp2_with fail
              go_roundw
              case rel => exact ⟨k, by omega, rfl, (unhid HTOP).trans ((unhid HMISS) (unhid HQ)), unhid HBL2⟩
              case measure => simp [intOf]

set_option maxHeartbeats 2000000 in
set_option maxRecDepth 100000 in
theorem colour_calls (f : Fc) (A : Option Addr) (c : Nat) (i j : Int) (w : World) (hit : ItsOk w A f.items) (hf : fcB f = true) (hi : 0 ≤ i ∧ i < f.size) (hj : 0 ≤ j ∧ j < heiF f) :
    Calls Tryz.prog 229 #[.agg #[.int .i64 f.shape, .int .i64 f.size, .int .i64 f.height, .slice A f.items.length c], .int .i64 i, .int .i64 j] w fun e w' => e = .returned (.int .i64 (colI f i j)) ∧ Below w.heap.size w w' := by
  have HTC := hid (fun W (h : ItsOk W A f.items) => top_calls f A c i j W h hf hi hj)
  have HIT := hid hit
  clear hit hi hj
  go_enter Tryz.func229, Tryz.ntmps229
  go_wp2_with fail
  refine ((unhid HTC) _ ((unhid HIT).below (below_alloc _ _))).mono ?_
  rintro e w1 ⟨rfl, hb1⟩
  have c3 : w1.cell? ⟨w.heap.size, 3, none⟩ = some (.slice A f.items.length c) := by rw [hb1.cell (p := ⟨w.heap.size, 3, none⟩) (by simp), World.cell?_alloc_new]; rfl
  have hbw := (below_alloc w (.cells #[.int .i64 f.shape, .int .i64 f.size, .int .i64 f.height, .slice A f.items.length c] 214)).trans (hb1.mono (by simp))
  have HIT1 := hid ((unhid HIT).below hbw)
  have HBW := hid hbw
  clear hb1 hbw
  cases hp : partB f (2 * i + 1 - f.size) (2 * j + 1 - heiF f) with
  | false =>
    have HC := hid (colI_no (f := f) (i := i) (j := j) (by rw [hp]; simp))
    rw [topR_out hp]
    clear hp
    go_wp2_with fail
    go_ret
    exact ⟨reti (unhid HC).symm, unhid HBW⟩
  | true =>
    rw [topR_in hp]
    obtain ⟨b1, b2⟩ := topK_bounds (fun t => paintB f t i j) f.items f.items.length
    have b1 : -1 ≤ topI f i j := b1
    have b2 : topI f i j < f.items.length := b2
    have hn := (unhid HIT).n
    by_cases hneg : topI f i j < 0
    · have e : topI f i j = -1 := by omega
      have HC := hid (colI_bare hp e)
      rw [e]
      clear hp e hneg b1 b2
      go_wp2_with fail
      go_ret
      exact ⟨reti (unhid HC).symm, unhid HBW⟩
    · obtain ⟨q, hq⟩ := Int.eq_ofNat_of_zero_le (show 0 ≤ topI f i j by omega)
      have hqn : q < f.items.length := by omega
      have HC := hid (colI_item hp hq (List.getElem?_eq_getElem hqn))
      rw [hq]
      clear hp hq hneg b1 b2
      obtain ⟨b, off, rfl, hb, hc⟩ := (unhid HIT1).rd (its_ne hqn)
      obtain ⟨-, m1, -⟩ := its_cells hc hqn
      clear hc
      go_wp2_with fail
      go_ret
      exact ⟨reti (unhid HC).symm, unhid HBW⟩


end Go.Proofs.YtfklckjfbnaoeaaGreatDoor
