/-
  Mirror of package face.
-/
import Derived.Test.YtmagidoodlkeoaaGreatDoorFcEq
set_option linter.unusedSimpArgs false
set_option linter.unusedVariables false
namespace Go.Proofs.YtmagidoodlkeoaaGreatDoor
open Go.RowKit Go.Shelf

attribute [local go_sem] Oper.semAt_some wide_fn

/-- Where Mirror begins: a face, two results. -/
structure MrAt (w : World) (f : Fc) (A : Option Addr) (c : Nat) (B : Nat) : Prop where
  f : FaceAt w B f A c
  r : BE w (B + 1) false 0
theorem MrAt.below {w w' : World} {f : Fc} {A : Option Addr} {c B : Nat} (h : MrAt w f A c B) (hb : Below w.heap.size w w') : MrAt w' f A c B := ⟨h.f.below hb, h.r.below hb⟩
theorem mr_start (w : World) {f : Fc} {A : Option Addr} (c : Nat) (hf : ItsOk w A f.items) :
    MrAt (((w.alloc (.cells #[.int .i64 f.shape, .int .i64 f.size, .int .i64 f.height, .slice A f.items.length c] 25)).alloc (.cells #[.bool false] 4)).alloc (.cells #[.int .i64 0] 26)) f A c w.heap.size ∧
    Below w.heap.size w (((w.alloc (.cells #[.int .i64 f.shape, .int .i64 f.size, .int .i64 f.height, .slice A f.items.length c] 25)).alloc (.cells #[.bool false] 4)).alloc (.cells #[.int .i64 0] 26)) := by
  have h1 := FaceAt.new w c hf
  have hb1 := below_alloc w (.cells #[.int .i64 f.shape, .int .i64 f.size, .int .i64 f.height, .slice A f.items.length c] 25)
  have hs1 : (w.alloc (.cells #[.int .i64 f.shape, .int .i64 f.size, .int .i64 f.height, .slice A f.items.length c] 25)).heap.size = w.heap.size + 1 := by simp
  generalize w.alloc (.cells #[.int .i64 f.shape, .int .i64 f.size, .int .i64 f.height, .slice A f.items.length c] 25) = W2 at *
  have hb3 := below_alloc W2 (.cells #[.bool false] 4)
  have n3 := heap_alloc_new W2 (.cells #[.bool false] 4)
  have hs3 : (W2.alloc (.cells #[.bool false] 4)).heap.size = W2.heap.size + 1 := by simp
  generalize W2.alloc (.cells #[.bool false] 4) = W3 at *
  have hb4 := below_alloc W3 (.cells #[.int .i64 0] 26)
  have n4 := heap_alloc_new W3 (.cells #[.int .i64 0] 26)
  generalize W3.alloc (.cells #[.int .i64 0] 26) = W4 at *
  have e3 : W3.heap.size = w.heap.size + 1 + 1 := by omega
  have b24 : Below W2.heap.size W2 W4 := hb3.trans (hb4.mono hb3.size)
  refine ⟨⟨h1.below b24, ?_, ?_⟩, hb1.trans (b24.mono hb1.size)⟩
  · rw [← hs1]; exact (hb4.block _ (by omega)).trans n3
  · rw [← e3]; exact n4

set_option maxHeartbeats 4000000 in
set_option maxRecDepth 100000 in
theorem pmirror_no (f : Fc) (A : Option Addr) (c : Nat) (w : World) (hit : ItsOk w A f.items) (hf : fcB f = false) :
    Calls Tryz.prog 51 #[.agg #[.int .i64 f.shape, .int .i64 f.size, .int .i64 f.height, .slice A f.items.length c]] w fun e w' => e = .returned (.tuple #[.bool false, .int .i64 10]) ∧ Below w.heap.size w w' := by
  obtain ⟨hE, hB⟩ := mr_start w c hit
  have HE := hid hE
  have HB := hid hB
  have HFF := hid hf
  clear hE hB hit hf
  go_enter Tryz.func51, Tryz.ntmps51
  go_upto_region 1 with (fail)
  generalize ((w.alloc (.cells #[.int .i64 f.shape, .int .i64 f.size, .int .i64 f.height, .slice A f.items.length c] 25)).alloc (.cells #[.bool false] 4)).alloc (.cells #[.int .i64 0] 26) = W at *
  obtain ⟨B, hBB⟩ : ∃ B, B = w.heap.size := ⟨_, rfl⟩
  have HBB := hid (show w.heap.size ≤ B + 1 by omega)
  rw [← hBB] at HE ⊢
  clear hBB
  obtain ⟨c0, c1, c2', c3⟩ := (unhid HE).f.cells
  go_wp2_with fail
  refine (valid_calls f A c W (unhid HE).f.ok).mono ?_
  rintro e w1 ⟨rfl, hb⟩
  rw [unhid HFF]
  have HE := hid ((unhid HE).below hb)
  have HB := hid ((unhid HB).trans (hb.mono (unhid HB).size))
  clear hb c0 c1 c2' c3
  obtain ⟨m0, m1, m2, m3⟩ := (unhid HE).r.cells
  have HS := hid (BE.set (b' := false) (n' := 10) (unhid HE).r).cells
  have HB2 := hid (Below.setCell (p := ⟨B + 1 + 1, 0, none⟩) (Below.setCell (p := ⟨B + 1, 0, none⟩) (unhid HB) (unhid HBB) (.bool false)) (Nat.le_succ_of_le (unhid HBB)) (.int .i64 10))
  go_wp2_with fail
  refine bodyPost_ret_by (v := .tuple #[.bool false, .int .i64 10]) (results_be Tryz.results51 _ _ (B + 1) (B + 1 + 1) false 10 rfl rfl (unhid HS).1 (unhid HS).2.1) rfl ?_
  exact ⟨rfl, unhid HB2⟩

set_option maxHeartbeats 4000000 in
set_option maxRecDepth 100000 in
theorem pmirror_ok (f : Fc) (A : Option Addr) (c : Nat) (w : World) (hit : ItsOk w A f.items) (hf : fcB f = true) :
    Calls Tryz.prog 51 #[.agg #[.int .i64 f.shape, .int .i64 f.size, .int .i64 f.height, .slice A f.items.length c]] w fun e w' => e = .returned (.tuple #[.bool (mirB f), .int .i64 0]) ∧ Below w.heap.size w w' := by
  obtain ⟨s0, s1⟩ := size_bounds hf
  obtain ⟨t0, t1⟩ := heiF_bounds hf
  obtain ⟨hE, hB⟩ := mr_start w c hit
  have HFF := hid hf
  have HE := hid hE
  have HB := hid hB
  clear hE hB hit hf
  refine (callsIn_wide (n := 9)).1 ?_
  refine callsIn_of_wp_marks Tryz.func51 rfl trivial ?_ rfl
  simp only [Tryz.ntmps51, List.size_toArray, List.length_cons, List.length_nil, Nat.reduceAdd, Nat.reduceSub, Array.replicate_succ, Array.replicate_zero, List.push_toArray, List.append_toArray, List.nil_append, List.cons_append]
  refine wpIn_wide.2 ?_
  go_upto_region 1 with (fail)
  generalize ((w.alloc (.cells #[.int .i64 f.shape, .int .i64 f.size, .int .i64 f.height, .slice A f.items.length c] 25)).alloc (.cells #[.bool false] 4)).alloc (.cells #[.int .i64 0] 26) = W at *
  obtain ⟨B, hBB⟩ : ∃ B, B = w.heap.size := ⟨_, rfl⟩
  have HB0 := hid (show w.heap.size ≤ B + 1 by omega)
  rw [← hBB] at HE ⊢
  clear hBB
  obtain ⟨c0, c1, c2', c3⟩ := (unhid HE).f.cells
  go_wp2_with fail
  refine (valid_calls f A c W (unhid HE).f.ok).mono ?_
  rintro e w1 ⟨rfl, hb⟩
  rw [unhid HFF]
  have HE := hid ((unhid HE).below hb)
  have HB := hid ((unhid HB).trans (hb.mono (unhid HB).size))
  clear hb c0 c1 c2' c3
  obtain ⟨c0, c1, c2', c3⟩ := (unhid HE).f.cells
  go_wp2_with fail
  refine (extent_calls f A c w1 (by omega) (by omega)).mono ?_
  rintro e w2 ⟨rfl, hb⟩
  have hb := hb.trans ((below_alloc w2 (.cells #[.int .i64 f.size] 3)).mono hb.size)
  have HM := hid (heap_alloc_new w2 (.cells #[.int .i64 f.size] 3))
  clear c0 c1 c2' c3
  go_upto_region 4 with (fail)
  generalize w2.alloc (.cells #[.int .i64 f.size] 3) = w3 at *
  generalize w2.heap.size = M at *
  have HE := hid ((unhid HE).below hb)
  have HB := hid ((unhid HB).trans (hb.mono (unhid HB).size))
  clear hb
  obtain ⟨c0, c1, c2', c3⟩ := (unhid HE).f.cells
  go_wp2_with fail
  refine (pdots_calls f A c w3 (by omega) (by omega)).mono ?_
  rintro e w5 ⟨hb, bh, bw, rfl, cbh, cbw, lbh, lbw⟩
  have HE := hid ((unhid HE).below hb)
  have HB := hid ((unhid HB).trans (hb.mono (unhid HB).size))
  have HM := hid ((hb.block M (Array.getElem?_eq_some_iff.1 (unhid HM)).1).trans (unhid HM))
  clear hb c0 c1 c2' c3
  obtain ⟨W0, hW0⟩ : ∃ W0 : Nat, W0 = f.size.toNat := ⟨_, rfl⟩
  obtain ⟨H0, hH0⟩ : ∃ H0 : Nat, H0 = (heiF f).toNat := ⟨_, rfl⟩
  have hWI : (W0 : Int) = f.size := by omega
  have hHI : (H0 : Int) = heiF f := by omega
  have hN : numD f = W0 * H0 := by rw [hW0, hH0]; rfl
  go_wp2_with fail
  have HWI := hid hWI
  have HHI := hid hHI
  have HN := hid hN
  rw [← hHI] at cbh
  rw [← hWI] at cbw
  have hIE : ∀ x : Fin (numD f), (pxI W0 x.val) < f.size ∧ (pxJ W0 x.val) < heiF f := fun x => by rw [hW0]; exact pix_lt x.isLt
  have HIE := hid hIE
  have hW1 : 1 ≤ W0 ∧ W0 ≤ 1000 := by omega
  have hH1 : H0 ≤ 1000 := by omega
  have hFN : ∀ n : Nat, n < numD f → (colI f (pxI W0 n) (pxJ W0 n) = dotK f f.items.length n ∧ colI f (f.size - 1 - pxI W0 n) (pxJ W0 n) = colI f (f.size - 1 - ((n % f.size.toNat : Nat) : Int)) ((n / f.size.toNat : Nat) : Int)) := fun n hn => ⟨by rw [hW0]; rfl, by rw [hW0]; rfl⟩
  have HFN := hid hFN
  have hws : w.heap.size ≤ w5.heap.size := (unhid HB).size
  have HWS := hid hws
  clear hIE hFN hWI hHI hN hW0 hH0 hws
  refine (wpIn_wide (n := 9)).1 ?_
  refine wpIn_rangeFunc_ownF (α := Fin (numD f)) rfl (by omega) (gf := 105) (lb := #[.pointer (some ⟨bh, 0, none⟩), .pointer (some ⟨bw, 0, none⟩)]) rfl trivial (enters_of Tryz.func105 (by kernel_rfl) rfl)
    (dots_stops Fence.wide 8 trivial rfl (by omega) bh bw W0 H0 (numD f) w5.heap.size (unhid HN) hW1 hH1 w5 (Nat.le_refl _) cbh cbw ⟨lbh, lbw⟩) belowK_t (belowK_b (Nat.le_refl _)) (Below.refl _ _) (fun _ => rfl)
    (fun pre W => (∀ x ∈ pre, colI f (pxI W0 x.val) (pxJ W0 x.val) = colI f (f.size - 1 - pxI W0 x.val) (pxJ W0 x.val)) ∧ Below w5.heap.size w5 W)
    (fun cd pre W => ((cd = .ret ∧ ∃ x ∈ pre, colI f (pxI W0 x.val) (pxJ W0 x.val) ≠ colI f (f.size - 1 - pxI W0 x.val) (pxJ W0 x.val)) ∧ BE W (B + 1) false 0) ∧ Below w.heap.size w W)
    (OwnFrom.and (ownFrom_pure _ _) (ownFrom_below (Nat.le_refl _) (Nat.le_refl _)))
    (fun cd => OwnFrom.and (OwnFrom.and (ownFrom_pure _ _) (Own.from (fun s A B row hs hg hr => hs.kept hg hr) _)) (ownFrom_below (Nat.le_refl _) (unhid HWS)))
    ⟨by simp, Below.refl _ _⟩
    ?a1 ?assign ?body ?done ?stop
  case assign =>
    intro l x W K hK
    simp only [pxV]
    gi_wp2
    exact hK
  case body =>
    rintro l pre x W ⟨hall, hbel⟩ hlt
    obtain ⟨hx1, hx2⟩ := (unhid HIE) x
    have hx0 : (0 : Int) ≤ (pxI W0 x.val) := Int.natCast_nonneg _
    have hx3 : (0 : Int) ≤ (pxJ W0 x.val) := Int.natCast_nonneg _
    have hE' := (unhid HE).below hbel
    have HFW := hid (fun p : After W => hE'.f.below p.below)
    have a0 : ∀ p : After W, p.w.cell? ⟨B, 0, none⟩ = some (.int .i64 f.shape) := fun p => ((unhid HFW) p).cells.1
    have a1 : ∀ p : After W, p.w.cell? ⟨B, 1, none⟩ = some (.int .i64 f.size) := fun p => ((unhid HFW) p).cells.2.1
    have a2 : ∀ p : After W, p.w.cell? ⟨B, 2, none⟩ = some (.int .i64 f.height) := fun p => ((unhid HFW) p).cells.2.2.1
    have a3 : ∀ p : After W, p.w.cell? ⟨B, 3, none⟩ = some (.slice A f.items.length c) := fun p => ((unhid HFW) p).cells.2.2.2
    have hm := (hbel.block M (Array.getElem?_eq_some_iff.1 (unhid HM)).1).trans (unhid HM)
    have b0 : ∀ p : After W, p.w.cell? ⟨M, 0, none⟩ = some (.int .i64 f.size) := fun p => cell_of_row _ _ _ _ _ _ ((p.below.block M (Array.getElem?_eq_some_iff.1 hm).1).trans hm)
    have KF := hid (fun p : After W => colour_calls f A c (pxI W0 x.val) (pxJ W0 x.val) p.w ((unhid HFW) p).ok (unhid HFF) ⟨hx0, hx1⟩ ⟨hx3, hx2⟩)
    have KG := hid (fun p : After W => colour_calls f A c (f.size - 1 - pxI W0 x.val) (pxJ W0 x.val) p.w ((unhid HFW) p).ok (unhid HFF) ⟨by omega, by omega⟩ ⟨hx3, hx2⟩)
    have HALL := hid hall
    have HBL := hid hbel
    have HR := hid hE'.r
    have HIN := hid (show ∀ u v : Int, u = colI f (pxI W0 x.val) (pxJ W0 x.val) → v = colI f (f.size - 1 - pxI W0 x.val) (pxJ W0 x.val) → (u = v → ∀ y ∈ pre ++ [x], colI f (pxI W0 y.val) (pxJ W0 y.val) = colI f (f.size - 1 - pxI W0 y.val) (pxJ W0 y.val)) ∧ (u ≠ v → ∃ y ∈ pre ++ [x], colI f (pxI W0 y.val) (pxJ W0 y.val) ≠ colI f (f.size - 1 - pxI W0 y.val) (pxJ W0 y.val)) from fun u v hu hv =>
      ⟨fun e y hy => (List.mem_append.1 hy).elim ((unhid HALL) y) (fun h => by simp at h; subst h; rw [← hu, ← hv]; exact e), fun e => ⟨x, List.mem_append.2 (.inr (by simp)), by rw [← hu, ← hv]; exact e⟩⟩)
    obtain ⟨u, hu⟩ : ∃ u, u = colI f (pxI W0 x.val) (pxJ W0 x.val) := ⟨_, rfl⟩
    obtain ⟨v, hv⟩ : ∃ v, v = colI f (f.size - 1 - pxI W0 x.val) (pxJ W0 x.val) := ⟨_, rfl⟩
    have HIN := hid ((unhid HIN) u v hu hv)
    rw [← hu] at KF
    rw [← hv] at KG
    clear hu hv
    obtain ⟨y0, y0'⟩ := w64 (n := f.size - 1) (by omega) (by omega)
    obtain ⟨y1, y1'⟩ := w64 (n := f.size - 1 - pxI W0 x.val) (by omega) (by omega)
    clear hall hbel hE' HFW hx0 hx1 hx2 hx3 hm
    gi_wp2_with fail
    refine wpIn_region_below (by kernel_rfl) (by kernel_rfl) (by kernel_rfl) ?_
    gi_big_quiet_step (fail)
    gi_big_quiet_step (fail)
    gi_big_quiet_step (fail)
    gi_big_quiet_step ((gi_at_call 72; exact callsIn_wide.2 (Calls.after_of ((unhid KF) _))))
    gi_big_quiet_step (fail)
    gi_big_quiet_step (fail)
    gi_big_quiet_step (fail)
    gi_big_quiet_step (fail)
    gi_big_quiet_step (fail)
    gi_big_quiet_step (fail)
    gi_big_quiet_step ((gi_at_call 72; exact callsIn_wide.2 (Calls.after_of ((unhid KG) _))))
    gi_big_quiet_step (fail)
    refine wpQuietIn_nil ?_
    intro wq hw'
    obtain ⟨⟨wq2, hbq⟩, hw''⟩ := hw'
    dsimp only at hw''
    subst hw''
    clear a0 a1 a2 a3 b0
    have HBQ := hid hbq
    have hr := (unhid HR).below hbq
    clear hbq y0 y0' y1 y1'
    by_cases huv : u = v
    · have hc : (u != v) = false := by simp [huv]
      have HQ := hid ((unhid HIN).1 huv)
      clear huv hr
      gi_wp2
      exact ⟨keepsOthers_below (unhid HBQ), (unhid HBQ).mono (unhid HBL).size, unhid HQ, (unhid HBL).trans ((unhid HBQ).mono (unhid HBL).size)⟩
    · have hc : (u != v) = true := by simp [huv]
      have HQ := hid ((unhid HIN).2 huv)
      obtain ⟨m0, m1, m2, m3⟩ := hr.cells
      have HR2 := hid hr
      clear huv hr
      gi_wp2
      have hb2 := (unhid HB).trans (((unhid HBL).trans ((unhid HBQ).mono (unhid HBL).size)).mono (unhid HWS))
      exact ⟨(keepsOthers_below (unhid HBQ)).trans ((KeepsOthers.setCell _ _ _).trans (KeepsOthers.setCell _ _ _)), ⟨⟨rfl, unhid HQ⟩, BE.set (unhid HR2)⟩, Below.setCell (Below.setCell hb2 (unhid HB0) _) (Nat.le_succ_of_le (unhid HB0)) _⟩
  case done =>
    rintro D ys W hD rfl ⟨hall, hbel⟩ hK
    have hbe := (unhid HE).r.below hbel
    obtain ⟨m0, m1, m2, m3⟩ := hbe.cells
    have HR := hid hbe
    have HQ := hid (mir_true (f := f) (fun n hn => by
      obtain ⟨e1, e2⟩ := (unhid HFN) n hn
      rw [← e1, ← e2]
      exact hall ⟨n, hn⟩ (List.mem_finRange _)))
    have HBL := hid hbel
    have HD := hid hD
    clear hall hbel hbe hD
    go_wp2_with fail
    have hK' := ((KeepsOthers.setCell W ⟨B + 1, 0, none⟩ (.bool true)).trans (KeepsOthers.setCell _ ⟨B + 1 + 1, 0, none⟩ (.int .i64 0))).same D _ hK rfl
    have hbe2 := (BE.set (b' := true) (n' := 0) (unhid HR)).kept (grownBy_putObj' _ D (.deferred none)) (fun r e => by cases e; exact ⟨_, hK', rfl⟩)
    have hb2 := Below.setCell (p := ⟨B + 1 + 1, 0, none⟩) (Below.setCell (p := ⟨B + 1, 0, none⟩) ((unhid HB).trans ((unhid HBL).mono (unhid HWS))) (unhid HB0) (.bool true)) (Nat.le_succ_of_le (unhid HB0)) (.int .i64 0)
    refine ⟨by simp, .inl ⟨_, _, rfl, run_takeDeferred hK', ?_⟩⟩
    exact ⟨_, results_be rfl _ _ (B + 1) (B + 1 + 1) true 0 rfl rfl hbe2.cells.1 hbe2.cells.2.1, by rw [unhid HQ], hb2.trans (belowK_b (w := w) (Nat.le_refl _) _ D _ _ (Nat.le_trans (unhid HWS) (unhid HD)) hK' rfl rfl)⟩
  case stop =>
    rintro D cd pre W hD hpre ⟨⟨⟨rfl, x, hx, hne⟩, hbe⟩, hbel⟩ hK
    have HQ := hid (mir_dot (f := f) x.isLt (by
      obtain ⟨e1, e2⟩ := (unhid HFN) x.val x.isLt
      rw [← e1, ← e2]
      exact hne))
    refine (wpIn_wide (n := 9)).2 ?_
    go_wp2_with fail
    have hbe2 := hbe.kept (grownBy_putObj' _ D (.deferred none)) (fun r e => by cases e; exact ⟨_, hK, rfl⟩)
    refine ⟨by simp, .inl ⟨_, _, rfl, run_takeDeferred hK, ?_⟩⟩
    exact ⟨_, results_be rfl _ _ (B + 1) (B + 1 + 1) false 0 rfl rfl hbe2.cells.1 hbe2.cells.2.1, by rw [unhid HQ], hbel.trans (belowK_b (w := w) (Nat.le_refl _) _ D _ _ (Nat.le_trans (unhid HWS) hD) hK rfl rfl)⟩

end Go.Proofs.YtmagidoodlkeoaaGreatDoor
