/-
  The law FaceStrips.
-/
import Derived.Test.YtmagidoodlkeoaaGreatDoorFcSp
import Derived.Test.YtmagidoodlkeoaaGreatDoorFcSw
set_option linter.unusedSimpArgs false
set_option linter.unusedVariables false
namespace Go.Proofs.YtmagidoodlkeoaaGreatDoor
open Go.RowKit

theorem info_i64' : (Tryz.prog.info? 3).map (fun i => (i.zero, i.size, i.bytes)) = some (some (.int .i64 0), 1, 8) := by kernel_rfl
theorem set_at {L : List Int} {k b : Nat} {v : Int} (h : b ≠ k) : (L.set k v)[b]? = L[b]? := by rw [List.getElem?_set]; rw [if_neg (by omega)]
theorem row_cell {w : World} {g : Nat} {L : List Int} {t : TypeId} (h : w.heap[g]? = some (.cells (ints L).toArray t (0, 0))) {b : Nat} {x : Int} (hb : L[b]? = some x) : w.cell? ⟨g, b, none⟩ = some (.int .i64 x) := by
  rw [cell_of_row _ _ _ _ _ _ h]
  simp [ints, hb]
theorem row_free {w : World} {g : Nat} {L : List Int} {t : TypeId} (h : w.heap[g]? = some (.cells (ints L).toArray t (0, 0))) (b : Nat) : w.frozen? ⟨g, b, none⟩ = false := by simp [World.frozen?, h]
theorem row_set {w : World} {g : Nat} {L : List Int} {t : TypeId} (h : w.heap[g]? = some (.cells (ints L).toArray t (0, 0))) (b : Nat) (x : Int) : (w.setCell ⟨g, b, none⟩ (.int .i64 x)).heap[g]? = some (.cells (ints (L.set b x)).toArray t (0, 0)) := by
  rw [block_set_same h]
  simp [ints, List.map_set]
theorem row_set2 {w : World} {g : Nat} {L : List Int} {t : TypeId} {k : Nat} {v : Int} (h : w.heap[g]? = some (.cells (ints (L.set k v)).toArray t (0, 0))) (n : Nat) (x : Int) : ((w.drewN n).setCell ⟨g, k, none⟩ (.int .i64 x)).heap[g]? = some (.cells (ints (L.set k x)).toArray t (0, 0)) := by
  have h' : (w.drewN n).heap[g]? = some (.cells (ints (L.set k v)).toArray t (0, 0)) := h
  rw [row_set h', List.set_set]
theorem seam_is_none {f : Fc} {wd : Nat} (h : 1 ≤ (wd : Int) ∧ (wd : Int) ≤ 200) (hs : seamsP f wd = none) : seamL f wd = [] ∧ seamE f wd = 11 := by
  unfold seamL seamE
  rw [if_pos h, if_pos h, Int.toNat_natCast, hs]
  exact ⟨rfl, rfl⟩
theorem seam_is_some {f : Fc} {wd : Nat} {l : List Int} (h : 1 ≤ (wd : Int) ∧ (wd : Int) ≤ 200) (hs : seamsP f wd = some l) : seamL f wd = l ∧ seamE f wd = 0 := by
  unfold seamL seamE
  rw [if_pos h, if_pos h, Int.toNat_natCast, hs]
  exact ⟨rfl, rfl⟩

set_option maxHeartbeats 8000000 in
set_option maxRecDepth 100000 in
theorem strips_calls (f : Fc) (A : Option Addr) (c : Nat) (width : Int) (w : World) (hg : Gl w) (hit : ItsOk w A f.items) :
    Calls Tryz.prog 14 #[.agg #[.int .i64 f.shape, .int .i64 f.size, .int .i64 f.height, .slice A f.items.length c], .int .i64 width] w fun e w' => e = .returned (.bool true) ∧ Below w.heap.size w w' := by
  have HF := hid (FaceAt.new w c hit)
  have HO := hid ((On.start hg).lay (.cells #[.int .i64 f.shape, .int .i64 f.size, .int .i64 f.height, .slice A f.items.length c] 25))
  clear hg hit
  go_enter Tryz.func14, Tryz.ntmps14
  go_wp2_with fail
  generalize w.alloc (.cells #[.int .i64 f.shape, .int .i64 f.size, .int .i64 f.height, .slice A f.items.length c] 25) = W at *
  refine (long_calls f A c W (unhid HF).ok).mono ?_
  rintro e w1 ⟨rfl, hw1⟩
  have hb : Below W.heap.size W w1 := hw1 ▸ below_alloc _ _
  have HF := hid ((unhid HF).below hb)
  have HO := hid ((unhid HO).next hb)
  clear hw1 hb
  cases hl : longB f with
  | true =>
    go_wp2_with fail
    refine (unhid HO).first.mono ?_
    rintro e w9 ⟨rfl, hb2⟩
    have HB2 := hid hb2
    clear hb2
    go_wp2_with fail
    go_ret
    exact ⟨rfl, unhid HB2⟩
  | false =>
    obtain ⟨c0, c1, c2, c3⟩ := (unhid HF).cells
    go_wp2_with fail
    refine (rvalid_calls f A c w1 (unhid HF).ok).mono ?_
    rintro e w2 ⟨rfl, hb⟩
    have HF := hid ((unhid HF).below hb)
    have HO := hid ((unhid HO).next hb)
    clear hb c0 c1 c2 c3
    obtain ⟨c0, c1, c2, c3⟩ := (unhid HF).cells
    cases hf : fcB f with
    | false =>
      go_wp2_with fail
      refine (unhid HO).first.mono ?_
      rintro e w9 ⟨rfl, hb2⟩
      have HB2 := hid hb2
      clear hb2
      go_wp2_with fail
      go_ret
      exact ⟨rfl, unhid HB2⟩

    | true =>
      have HFF := hid hf
      have hsl := seamL_len f width hf
      obtain ⟨s0, s1⟩ := size_bounds hf
      by_cases hw : 1 ≤ width ∧ width ≤ 200
      case neg =>
        rcases (show width < 1 ∨ (¬ width < 1 ∧ 200 < width) by omega) with h1 | ⟨h1, h2⟩
        · clear hw
          go_wp2_with fail
          refine (unhid HO).first.mono ?_
          rintro e w9 ⟨rfl, hb2⟩
          have HB2 := hid hb2
          clear hb2
          go_wp2_with fail
          go_ret
          exact ⟨rfl, unhid HB2⟩

        · clear hw
          go_wp2_with fail
          refine (unhid HO).first.mono ?_
          rintro e w9 ⟨rfl, hb2⟩
          have HB2 := hid hb2
          clear hb2
          go_wp2_with fail
          go_ret
          exact ⟨rfl, unhid HB2⟩

      case pos =>
        obtain ⟨wd, hwd⟩ := Int.eq_ofNat_of_zero_le (show 0 ≤ width by omega)
        subst hwd
        have HWD := hid hw
        obtain ⟨w0, w1'⟩ := hw
        go_wp2_with fail
        refine (seams_calls f A c wd w2 (unhid HF).ok (unhid HFF)).mono ?_
        rintro e w3 ⟨hb, A1, k1, rfl, hr1⟩
        have HR1 := hid hr1
        clear hr1
        have HF := hid ((unhid HF).below hb)
        have HO := hid ((unhid HO).next hb)
        clear hb c0 c1 c2 c3
        obtain ⟨c0, c1, c2, c3⟩ := (unhid HF).cells

        go_wp2_with fail
        refine (rextent_calls f A c w3 (by omega) (by omega)).mono ?_
        rintro e W0 ⟨rfl, hb⟩
        have HR1 := hid ((unhid HR1).below hb)
        have HF := hid ((unhid HF).below hb)
        have HO := hid ((unhid HO).next hb)
        clear hb c0 c1 c2 c3
        obtain ⟨c0, c1, c2, c3⟩ := (unhid HF).cells

        obtain ⟨N, hN⟩ := Int.eq_ofNat_of_zero_le (show 0 ≤ f.size + 1 by omega)
        have hN1 : 5 ≤ N ∧ N ≤ 201 := by omega
        have hmk : ∀ W : World, (Instr.makeSlice 34 (.int .i64 (f.size + 1)) (.int .i64 (f.size + 1))).run Tryz.prog W = .ok (.slice (some ⟨W.heap.size, 0, none⟩) N N) (W.alloc (.cells (madeCells #[.int .i64 0] N) 3)) := fun W => by
          rw [hN]
          exact run_make_row' 34 3 (.int .i64 0) 8 Tryz.underlying34 info_i64' rfl .i64 .i64 N (by omega) (by omega) W
        have HN := hid hN
        clear hN
        go_wp2_with fail
        have hpg : (W0.alloc (.cells (madeCells #[.int .i64 0] N) 3)).heap[W0.heap.size]? = some (.cells (ints (List.replicate N 0)).toArray 3 (0, 0)) := by
          have e : (ints (List.replicate N 0)).toArray = madeCells #[.int .i64 0] N := by
            apply Array.toList_inj.1; rw [toList_madeCells_one]; simp [ints]
          rw [e]; exact heap_alloc_new _ _
        have hbg : Below W0.heap.size W0 (W0.alloc (.cells (madeCells #[.int .i64 0] N) 3)) := below_alloc _ _
        generalize W0.alloc (.cells (madeCells #[.int .i64 0] N) 3) = W1 at *
        obtain ⟨g, hgg⟩ : ∃ g, g = W0.heap.size := ⟨_, rfl⟩
        rw [← hgg] at hpg hbg ⊢
        have HGG := hid hgg
        have HPG := hid hpg
        have HBG := hid hbg
        clear hgg hpg hbg hmk
        generalize hsL : seamL f wd = l at *
        generalize hsE : seamE f wd = er at *
        have HSL := hid hsL
        have HSE := hid hsE
        clear hsL hsE c0 c1 c2 c3
        go_loopw [10] (fun i wr => ∃ (k : Nat) (L : List Int), 1 ≤ k ∧ k ≤ N ∧ i = .int .i64 k ∧ L.length = N ∧ (∀ a (ha : a < L.length), a < k → Bst f wd a L[a]) ∧ wr.heap[g]? = some (.cells (ints L).toArray 3 (0, 0)) ∧ Below g W0 wr) (fun i _ => N - (intOf i).toNat)
        case atStart => exact ⟨1, List.replicate N 0, Nat.le_refl _, by omega, rfl, by simp, fun a ha hak => by
          obtain rfl : a = 0 := by omega
          simpa using Bst.start f wd, unhid HPG, unhid HBG⟩
        case round =>
          obtain ⟨k, L, hk1, hk2, rfl, hLN, hall, hp5, hb5⟩ := hrel
          have HALL := hid hall
          have HB5 := hid hb5
          have HP5 := hid hp5
          clear hall hb5 hp5
          by_cases hlt : k < N
          · have hks : (k : Int) ≤ f.size := by have := unhid HN; omega
            have hkL : k < L.length := by omega
            have m0 := row_cell (unhid HP5) (b := k) (x := L[k]) (List.getElem?_eq_getElem hkL)
            have m1 := row_free (unhid HP5) k
            have hkn : (k : Int) < N := by omega
            go_upto_region 10 with (fail)
            have HP6 := hid (row_set (unhid HP5) k (-1))
            have HB6 := hid (show Below g W0 (wr.setCell ⟨g, k, none⟩ (.int .i64 (-1))) from Below.setCell (unhid HB5) (Nat.le_refl _) _)
            generalize wr.setCell ⟨g, k, none⟩ (.int .i64 (-1)) = W5 at *
            clear m0 m1
            have HF5 := hid (((unhid HF).below (unhid HGG ▸ unhid HB6)))
            obtain ⟨c0, c1, c2, c3⟩ := (unhid HF5).cells
            obtain ⟨lo, hlo⟩ := Int.eq_ofNat_of_zero_le (show 0 ≤ max 0 ((k : Int) - wd) by omega)
            have hmx : max 0 ((k : Int) - (wd : Int)) = (lo : Int) := hlo
            have HLO := hid (show (lo : Int) = max 0 ((k : Int) - wd) from hlo.symm)
            clear hlo
            obtain ⟨y0, y0'⟩ := w64 (n := (k : Int) - wd) (by omega) (by omega)
            by_cases hkz : (k : Int) < f.size
            · go_wp2_with fail
              refine (rforb_calls f A c k W5 (unhid HF5).ok (unhid HFF)).mono ?_
              rintro e w6 ⟨rfl, hb6⟩
              have hglt := (Array.getElem?_eq_some_iff.1 (unhid HP6)).1
              have HP6 := hid ((hb6.block g (Array.getElem?_eq_some_iff.1 (unhid HP6)).1).trans (unhid HP6))
              have HB6 := hid ((unhid HB6).trans (hb6.mono (Nat.le_of_lt hglt)))
              clear hb6 c0 c1 c2 c3
              cases hcut : cutF f (k : Int) with
              | true =>
                have HC := hid (Bst.cut (f := f) (wd := wd) (c := (k : Int)) (by omega) hkz hcut)
                go_wp2_with fail
                go_roundw
                case rel => exact ⟨k + 1, L.set k (-1), by omega, by omega, by go_num, by simpa using hLN, fun a ha hak => by
                  by_cases e : a = k
                  · subst e; simpa using unhid HC
                  · have := (unhid HALL) a (by simpa using ha) (by omega)
                    rwa [List.getElem_set_ne (by omega)], unhid HP6, unhid HB6⟩
                case measure => simp [intOf]; omega
              | false =>
                have HCUT := hid (show (k : Int) < f.size → cutF f k = false from fun _ => hcut)
                go_wp2_with fail
                go_loopw [11] (fun i wz => ∃ (b : Nat) (v : Int), lo ≤ b ∧ b ≤ k ∧ i = .int .i64 b ∧ Prt f wd lo b v ∧ wz.heap[g]? = some (.cells (ints (L.set k v)).toArray 3 (0, 0)) ∧ Below g W0 wz) (fun i _ => k - (intOf i).toNat)
                case atStart => exact ⟨lo, -1, Nat.le_refl _, by have := unhid HLO; omega, rfl, Prt.start f wd lo, unhid HP6, unhid HB6⟩
                case round =>
                  obtain ⟨b, v, hb1, hb2, rfl, hprt, hp7, hb7⟩ := hrel
                  have HPRT := hid hprt
                  have HP7 := hid hp7
                  have HB7 := hid hb7
                  have hvb := hprt.bounds
                  clear hprt hp7 hb7
                  by_cases hbk : b < k
                  · have hbL : b < L.length := by omega
                    obtain ⟨u, hu⟩ : ∃ u, u = L[b] := ⟨_, rfl⟩
                    have hbst : Bst f wd b u := by rw [hu]; exact (unhid HALL) b hbL hbk
                    have hub := hbst.bounds
                    have HBST := hid hbst
                    have m0 := row_cell (unhid HP7) (b := b) (x := u) (by rw [set_at (by omega), hu, List.getElem?_eq_getElem hbL])
                    have m1 := row_cell (unhid HP7) (b := k) (x := v) (List.getElem?_set_self hkL)
                    have m2 := row_free (unhid HP7) k
                    clear hu hbst
                    obtain ⟨z0, z0'⟩ := w64 (n := u + 1) (by omega) (by omega)
                    have hbn : (b : Int) < N := by omega
                    by_cases hu0 : 0 ≤ u
                    · have := decide_eq_true (show 0 ≤ u by omega)
                      by_cases hbet : v < 0 ∨ u + 1 < v
                      · have HN := hid ((unhid HPRT).better hb1 (unhid HBST) hu0 hbet)
                        by_cases hv0 : v < 0
                        · have := decide_eq_true (show v < 0 by omega)
                          go_wp2_with fail
                          go_quiet (fail)
                          go_wp2_with fail
                          go_roundw
                          case rel => exact ⟨b + 1, u + 1, by omega, by omega, by go_num, unhid HN, by first | exact row_set2 (unhid HP7) _ _ | simpa using row_set2 (unhid HP7) 1 (u + 1), by first | exact Below.setCell (unhid HB7) (Nat.le_refl _) _ | exact Below.setCell (Below.drew (unhid HB7)) (Nat.le_refl _) _ | exact Below.setCell (below_drewN' (unhid HB7) _) (Nat.le_refl _) _⟩
                          case measure => simp [intOf]; omega
                        · have := decide_eq_false (show ¬ (v < 0) by omega)
                          have hlt : u + 1 < v := by omega
                          have := decide_eq_true (show u + 1 < v by omega)
                          go_wp2_with fail
                          go_quiet (fail)
                          go_wp2_with fail
                          go_roundw
                          case rel => exact ⟨b + 1, u + 1, by omega, by omega, by go_num, unhid HN, by first | exact row_set2 (unhid HP7) _ _ | simpa using row_set2 (unhid HP7) 1 (u + 1), by first | exact Below.setCell (unhid HB7) (Nat.le_refl _) _ | exact Below.setCell (Below.drew (unhid HB7)) (Nat.le_refl _) _ | exact Below.setCell (below_drewN' (unhid HB7) _) (Nat.le_refl _) _⟩
                          case measure => simp [intOf]; omega
                      · have hv0 : ¬ v < 0 := fun h => hbet (.inl h)
                        have hlt : ¬ u + 1 < v := fun h => hbet (.inr h)
                        have HN := hid ((unhid HPRT).worse (unhid HBST) (by omega) hlt)
                        have := decide_eq_false (show ¬ (v < 0) by omega)
                        have := decide_eq_false (show ¬ (u + 1 < v) by omega)
                        clear hbet
                        go_wp2_with fail
                        go_quiet (fail)
                        go_wp2_with fail
                        go_roundw
                        case rel => exact ⟨b + 1, v, by omega, by omega, by go_num, unhid HN, by first | exact unhid HP7 | simpa using unhid HP7, by first | exact below_drewN' (unhid HB7) _ | exact Below.drew (unhid HB7)⟩
                        case measure => simp [intOf]; omega
                    · have HN := hid ((unhid HPRT).none (unhid HBST) (by omega))
                      have := decide_eq_false (show ¬ (0 ≤ u) by omega)
                      go_wp2_with fail
                      go_quiet (fail)
                      go_wp2_with fail
                      go_roundw
                      case rel => exact ⟨b + 1, v, by omega, by omega, by go_num, unhid HN, by first | exact unhid HP7 | simpa using unhid HP7, by first | exact below_drewN' (unhid HB7) _ | exact Below.drew (unhid HB7)⟩
                      case measure => simp [intOf]; omega
                  · obtain rfl : b = k := by omega
                    have HDN := hid ((unhid HPRT).done (unhid HLO) (by omega) (by omega) (unhid HCUT))
                    go_wp2_with fail
                    go_roundw
                    case rel => exact ⟨b + 1, L.set b v, by omega, by omega, by go_num, by simpa using hLN, fun a ha hak => by
                      by_cases e : a = b
                      · subst e; simpa using unhid HDN
                      · have := (unhid HALL) a (by simpa using ha) (by omega)
                        rwa [List.getElem_set_ne (by omega)], unhid HP7, unhid HB7⟩
                    case measure => simp [intOf]; omega

            · have HCUT := hid (show (k : Int) < f.size → cutF f k = false from fun h => absurd h hkz)
              clear c0 c1 c2 c3
              go_wp2_with fail
              go_loopw [11] (fun i wz => ∃ (b : Nat) (v : Int), lo ≤ b ∧ b ≤ k ∧ i = .int .i64 b ∧ Prt f wd lo b v ∧ wz.heap[g]? = some (.cells (ints (L.set k v)).toArray 3 (0, 0)) ∧ Below g W0 wz) (fun i _ => k - (intOf i).toNat)
              case atStart => exact ⟨lo, -1, Nat.le_refl _, by have := unhid HLO; omega, rfl, Prt.start f wd lo, unhid HP6, unhid HB6⟩
              case round =>
                obtain ⟨b, v, hb1, hb2, rfl, hprt, hp7, hb7⟩ := hrel
                have HPRT := hid hprt
                have HP7 := hid hp7
                have HB7 := hid hb7
                have hvb := hprt.bounds
                clear hprt hp7 hb7
                by_cases hbk : b < k
                · have hbL : b < L.length := by omega
                  obtain ⟨u, hu⟩ : ∃ u, u = L[b] := ⟨_, rfl⟩
                  have hbst : Bst f wd b u := by rw [hu]; exact (unhid HALL) b hbL hbk
                  have hub := hbst.bounds
                  have HBST := hid hbst
                  have m0 := row_cell (unhid HP7) (b := b) (x := u) (by rw [set_at (by omega), hu, List.getElem?_eq_getElem hbL])
                  have m1 := row_cell (unhid HP7) (b := k) (x := v) (List.getElem?_set_self hkL)
                  have m2 := row_free (unhid HP7) k
                  clear hu hbst
                  obtain ⟨z0, z0'⟩ := w64 (n := u + 1) (by omega) (by omega)
                  have hbn : (b : Int) < N := by omega
                  by_cases hu0 : 0 ≤ u
                  · have := decide_eq_true (show 0 ≤ u by omega)
                    by_cases hbet : v < 0 ∨ u + 1 < v
                    · have HN := hid ((unhid HPRT).better hb1 (unhid HBST) hu0 hbet)
                      by_cases hv0 : v < 0
                      · have := decide_eq_true (show v < 0 by omega)
                        go_wp2_with fail
                        go_quiet (fail)
                        go_wp2_with fail
                        go_roundw
                        case rel => exact ⟨b + 1, u + 1, by omega, by omega, by go_num, unhid HN, by first | exact row_set2 (unhid HP7) _ _ | simpa using row_set2 (unhid HP7) 1 (u + 1), by first | exact Below.setCell (unhid HB7) (Nat.le_refl _) _ | exact Below.setCell (Below.drew (unhid HB7)) (Nat.le_refl _) _ | exact Below.setCell (below_drewN' (unhid HB7) _) (Nat.le_refl _) _⟩
                        case measure => simp [intOf]; omega
                      · have := decide_eq_false (show ¬ (v < 0) by omega)
                        have hlt : u + 1 < v := by omega
                        have := decide_eq_true (show u + 1 < v by omega)
                        go_wp2_with fail
                        go_quiet (fail)
                        go_wp2_with fail
                        go_roundw
                        case rel => exact ⟨b + 1, u + 1, by omega, by omega, by go_num, unhid HN, by first | exact row_set2 (unhid HP7) _ _ | simpa using row_set2 (unhid HP7) 1 (u + 1), by first | exact Below.setCell (unhid HB7) (Nat.le_refl _) _ | exact Below.setCell (Below.drew (unhid HB7)) (Nat.le_refl _) _ | exact Below.setCell (below_drewN' (unhid HB7) _) (Nat.le_refl _) _⟩
                        case measure => simp [intOf]; omega
                    · have hv0 : ¬ v < 0 := fun h => hbet (.inl h)
                      have hlt : ¬ u + 1 < v := fun h => hbet (.inr h)
                      have HN := hid ((unhid HPRT).worse (unhid HBST) (by omega) hlt)
                      have := decide_eq_false (show ¬ (v < 0) by omega)
                      have := decide_eq_false (show ¬ (u + 1 < v) by omega)
                      clear hbet
                      go_wp2_with fail
                      go_quiet (fail)
                      go_wp2_with fail
                      go_roundw
                      case rel => exact ⟨b + 1, v, by omega, by omega, by go_num, unhid HN, by first | exact unhid HP7 | simpa using unhid HP7, by first | exact below_drewN' (unhid HB7) _ | exact Below.drew (unhid HB7)⟩
                      case measure => simp [intOf]; omega
                  · have HN := hid ((unhid HPRT).none (unhid HBST) (by omega))
                    have := decide_eq_false (show ¬ (0 ≤ u) by omega)
                    go_wp2_with fail
                    go_quiet (fail)
                    go_wp2_with fail
                    go_roundw
                    case rel => exact ⟨b + 1, v, by omega, by omega, by go_num, unhid HN, by first | exact unhid HP7 | simpa using unhid HP7, by first | exact below_drewN' (unhid HB7) _ | exact Below.drew (unhid HB7)⟩
                    case measure => simp [intOf]; omega
                · obtain rfl : b = k := by omega
                  have HDN := hid ((unhid HPRT).done (unhid HLO) (by omega) (by omega) (unhid HCUT))
                  go_wp2_with fail
                  go_roundw
                  case rel => exact ⟨b + 1, L.set b v, by omega, by omega, by go_num, by simpa using hLN, fun a ha hak => by
                    by_cases e : a = b
                    · subst e; simpa using unhid HDN
                    · have := (unhid HALL) a (by simpa using ha) (by omega)
                      rwa [List.getElem_set_ne (by omega)], unhid HP7, unhid HB7⟩
                  case measure => simp [intOf]; omega

          · have hkN : k = N := by omega
            obtain ⟨v, hv⟩ : ∃ v, v = L[N - 1]'(by omega) := ⟨_, rfl⟩
            have hbv : Bst f wd f.size v := by
              have := (unhid HALL) (N - 1) (by omega) (by omega)
              rw [← hv] at this
              rwa [show ((N - 1 : Nat) : Int) = f.size by have := unhid HN; omega] at this
            have hvb := hbv.bounds
            have hks : ¬ (k : Int) ≤ f.size := by have := unhid HN; omega
            have hsz1 : f.size < (N : Int) := by have := unhid HN; omega
            have hsz0 : f.size.toNat = N - 1 := by have := unhid HN; omega
            have m0 : wr.cell? ⟨g, f.size.toNat, none⟩ = some (.int .i64 v) := row_cell (unhid HP5) (by rw [hsz0, hv]; exact List.getElem?_eq_getElem _)
            have HBV := hid hbv
            clear hv hbv hsz0
            have HF5 := hid (((unhid HF).below (unhid HGG ▸ unhid HB5)))
            have HO5 := hid (((unhid HO).next (unhid HGG ▸ unhid HB5)))
            have HR5 := hid (((unhid HR1).below (unhid HGG ▸ unhid HB5)))
            by_cases hv0 : v < 0
            · obtain ⟨x1, x2⟩ := seam_is_none (unhid HWD) (strips_none (unhid HFF) (unhid HBV) hv0)
              have her : er = 11 := (unhid HSE).symm.trans x2
              have hl : l = [] := (unhid HSL).symm.trans x1
              clear x1 x2
              subst her hl
              go_wp2_with fail
              refine (unhid HO5).first.mono ?_
              rintro e w9 ⟨rfl, hb2⟩
              have HB2 := hid hb2
              clear hb2
              go_wp2_with fail
              go_ret
              exact ⟨rfl, unhid HB2⟩

            · obtain ⟨l', hs', hgood, hvl⟩ := strips_some (unhid HFF) (unhid HBV) (by omega)
              obtain ⟨x1, x2⟩ := seam_is_some (unhid HWD) hs'
              have her : er = 0 := (unhid HSE).symm.trans x2
              have hl : l' = l := x1.symm.trans (unhid HSL)
              clear x1 x2 hs'
              subst her hl
              obtain ⟨g1, g2⟩ := goodS_at l' 0 hgood
              have HG1 := hid g1
              have HG2 := hid (show f.size - (0 :: l').getD l'.length 0 ≤ wd by simpa [List.getD_eq_getElem?_getD] using g2)
              have HVL := hid hvl
              clear g1 g2 hgood hvl
              go_wp2_with fail
              go_loopw [12, 13] (fun la i wz => ∃ j : Nat, j ≤ l'.length ∧ i = .int .i64 j ∧ la = .int .i64 ((0 :: l').getD j 0) ∧ Below wr.heap.size wr wz) (fun _ i _ => l'.length - (intOf i).toNat)
              case atStart => exact ⟨0, Nat.zero_le _, rfl, rfl, Below.refl _ _⟩
              case round =>
                obtain ⟨j, hj, rfl, rfl, hbz⟩ := hrel
                have HBZ := hid hbz
                have HF7 := hid ((unhid HF5).below hbz)
                by_cases hjl : j < l'.length
                · obtain ⟨q1, q2, q3, q4⟩ := (unhid HG1) j hjl
                  obtain ⟨b, off, rfl, hb, hc⟩ := ((unhid HR5).below hbz) (ints_ne hjl)
                  have m1 := hc j _ (ints_at l' j hjl)
                  have hpj : (0 :: l')[j]'(by simp; omega) = (0 :: l').getD j 0 := by rw [List.getD_eq_getElem?_getD, List.getElem?_eq_getElem (by simp; omega)]; rfl
                  have HNX := hid (show (0 :: l').getD (j + 1) 0 = l'[j] by simp [List.getD_eq_getElem?_getD, hjl])
                  rw [hpj] at q1 q3
                  clear hc hbz hpj m0
                  have hp0 : 0 ≤ (0 :: l').getD j 0 ∧ (0 :: l').getD j 0 ≤ 200 := by
                    cases j with
                    | zero => simp
                    | succ j =>
                      obtain ⟨r1, r2, -, -⟩ := (unhid HG1) j (by omega)
                      have : ∀ i (hi : i < l'.length), 0 ≤ l'[i] := by
                        intro i
                        induction i with
                        | zero => intro hi; have := ((unhid HG1) 0 hi).1; simp at this; omega
                        | succ i ih => intro hi; have h1 := ((unhid HG1) (i + 1) hi).1; have h2 := ih (by omega); simp at h1; omega
                      have h3 := this j (by omega)
                      simp [List.getD_eq_getElem?_getD, show j < l'.length by omega]
                      omega
                  generalize l'[j] = x at *
                  generalize (0 :: l').getD j 0 = p at *
                  have d1 := decide_eq_false (show ¬ x ≤ p by omega)
                  have d2 := decide_eq_false (show ¬ f.size ≤ x by omega)
                  obtain ⟨y0, y0'⟩ := w64 (n := x - p) (by omega) (by omega)
                  have d3 := decide_eq_false (show ¬ (wd : Int) < x - p by omega)
                  have HCF := hid (show ∀ q : After wr, Calls Tryz.prog 49 #[.agg #[.int .i64 f.shape, .int .i64 f.size, .int .i64 f.height, .slice A f.items.length c], .int .i64 x] q.w fun e w' => e = .returned (.bool false) ∧ Below q.w.heap.size q.w w' from fun q => by
                    have h := rforb_calls f A c x q.w ((unhid HF7).ok.below q.below) (unhid HFF)
                    rw [q4] at h
                    exact h)
                  obtain ⟨c0, c1, c2, c3⟩ := (unhid HF7).cells
                  have hBw := (unhid HF7).lt
                  obtain ⟨B, hBB⟩ : ∃ B, B = w.heap.size := ⟨_, rfl⟩
                  rw [← hBB] at c0 c1 c2 c3 hBw ⊢
                  have f0 := fun p : After wr => After.cell (a := ⟨B, 0, none⟩) hBw c0 p
                  have f1 := fun p : After wr => After.cell (a := ⟨B, 1, none⟩) hBw c1 p
                  have f2 := fun p : After wr => After.cell (a := ⟨B, 2, none⟩) hBw c2 p
                  have f3 := fun p : After wr => After.cell (a := ⟨B, 3, none⟩) hBw c3 p
                  have f4 := fun p : After wr => After.cell (a := ⟨b, off + j, none⟩) hb m1 p
                  clear q4 hBB
                  go_wp2_with fail
                  refine wp_region_below (by kernel_rfl) (by kernel_rfl) ?_
                  (repeat (go_big_quiet_step (first | (go_at_call 49; exact Calls.after_of ((unhid HCF) _)))))
                  refine wpQuiet_nil ?_
                  intro wq hw'
                  obtain ⟨⟨wq2, hbq⟩, hw''⟩ := hw'
                  dsimp only at hw''
                  subst hw''
                  have HB8 := hid ((unhid HBZ).trans (hbq.mono (unhid HBZ).size))
                  have m1 := (hbq.cell (p := ⟨b, off + j, none⟩) hb).trans m1
                  clear hbq f0 f1 f2 f3 f4 c0 c1 c2 c3
                  go_wp2_with fail
                  go_roundw
                  case rel => exact ⟨j + 1, by omega, by go_num, by rw [unhid HNX], unhid HB8⟩
                  case measure => simp [intOf]; omega
                · obtain rfl : j = l'.length := by omega
                  have m0 : wr.cell? ⟨g, f.size.toNat, none⟩ = some (.int .i64 v) := (hbz.cell (p := ⟨g, f.size.toNat, none⟩) (Array.getElem?_eq_some_iff.1 (unhid HP5)).1).trans m0
                  have HO7 := hid ((unhid HO5).next hbz)
                  clear hbz
                  have hq := unhid HG2
                  have hv1 : ((l'.length : Int) == v - 1) = true := by have := unhid HVL; simp; omega
                  obtain ⟨y1, y1'⟩ := w64 (n := v - 1) (by omega) (by omega)
                  have hl0 : -1000 ≤ (0 :: l').getD l'.length 0 ∧ (0 :: l').getD l'.length 0 ≤ 1000 := by
                    rcases Nat.eq_zero_or_pos l'.length with h | h
                    · rw [h]; simp
                    · have h1 := (unhid HG1) (l'.length - 1) (by omega)
                      have h2 : (0 :: l').getD l'.length 0 = l'[l'.length - 1]'(by omega) := by
                        obtain ⟨m, hm⟩ : ∃ m, l'.length = m + 1 := ⟨l'.length - 1, by omega⟩
                        simp [List.getD_eq_getElem?_getD, hm]
                      rw [h2]
                      omega
                  generalize (0 :: l').getD l'.length 0 = p at *
                  obtain ⟨y2, y2'⟩ := w64 (n := f.size - p) (by omega) (by omega)
                  go_wp2_with fail
                  refine (unhid HO7).first.mono ?_
                  rintro e w9 ⟨rfl, hb2⟩
                  have HB2 := hid hb2
                  clear hb2
                  go_wp2_with fail
                  go_ret
                  exact ⟨rfl, unhid HB2⟩


end Go.Proofs.YtmagidoodlkeoaaGreatDoor
