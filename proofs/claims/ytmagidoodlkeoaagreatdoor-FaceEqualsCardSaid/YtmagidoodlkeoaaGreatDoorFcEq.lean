/-
  Equal of package face.
-/
import Derived.Test.YtmagidoodlkeoaaGreatDoorFcLw
import Derived.Test.YtmagidoodlkeoaaGreatDoorFcDo
set_option linter.unusedSimpArgs false
set_option linter.unusedVariables false
namespace Go.Proofs.YtmagidoodlkeoaaGreatDoor
open Go.RowKit Go.Shelf

attribute [local go_sem] Oper.semAt_some wide_fn

theorem keepsOthers_below {W W' : World} (h : Below W.heap.size W W') : KeepsOthers W W' := ⟨h.size, fun k o hk _ => (h.block k (Array.getElem?_eq_some_iff.1 hk).1).trans hk⟩
theorem results_be {fn : Func} {p q : Tmp} (h : fn.results = #[.cell p 4, .cell q 26]) (tmps : Array Value) (w : World) (g k : Nat) (b : Bool) (n : Int)
    (hp : tmps.getD p undef = .pointer (some ⟨g, 0, none⟩)) (hq : tmps.getD q undef = .pointer (some ⟨k, 0, none⟩)) (cg : w.cell? ⟨g, 0, none⟩ = some (.bool b)) (ck : w.cell? ⟨k, 0, none⟩ = some (.int .i64 n)) :
    (results fn tmps).run Tryz.prog w = .ok (.tuple #[.bool b, .int .i64 n]) w := by
  simp only [Array.getD_eq_getD_getElem?] at hp hq
  simp [results, h, hp, hq, go_sem, cg, ck]

/-- Two cells of results. -/
structure BE (w : World) (R : Nat) (b : Bool) (n : Int) : Prop where
  b : w.heap[R]? = some (.cells #[.bool b] 4 (0, 0))
  n : w.heap[R + 1]? = some (.cells #[.int .i64 n] 26 (0, 0))
theorem BE.below {w w' : World} {R : Nat} {b : Bool} {n : Int} (h : BE w R b n) (hb : Below w.heap.size w w') : BE w' R b n :=
  ⟨(hb.block _ (Array.getElem?_eq_some_iff.1 h.b).1).trans h.b, (hb.block _ (Array.getElem?_eq_some_iff.1 h.n).1).trans h.n⟩
theorem BE.lt {w : World} {R : Nat} {b : Bool} {n : Int} (h : BE w R b n) : R + 1 < w.heap.size := (Array.getElem?_eq_some_iff.1 h.n).1
theorem BE.cells {w : World} {R : Nat} {b : Bool} {n : Int} (h : BE w R b n) : w.cell? ⟨R, 0, none⟩ = some (.bool b) ∧ w.cell? ⟨R + 1, 0, none⟩ = some (.int .i64 n) ∧ w.frozen? ⟨R, 0, none⟩ = false ∧ w.frozen? ⟨R + 1, 0, none⟩ = false :=
  ⟨cell_of_row _ _ _ _ _ _ h.b, cell_of_row _ _ _ _ _ _ h.n, by simp [World.frozen?, h.b], by simp [World.frozen?, h.n]⟩
theorem BE.set {w : World} {R : Nat} {b b' : Bool} {n n' : Int} (h : BE w R b n) : BE ((w.setCell ⟨R, 0, none⟩ (.bool b')).setCell ⟨R + 1, 0, none⟩ (.int .i64 n')) R b' n' := by
  have h1 : (w.setCell ⟨R, 0, none⟩ (.bool b')).heap[R]? = some (.cells #[.bool b'] 4 (0, 0)) := heap_setCell_same _ _ _ _ _ _ h.b
  have h2 : (w.setCell ⟨R, 0, none⟩ (.bool b')).heap[R + 1]? = some (.cells #[.int .i64 n] 26 (0, 0)) := (heap_setCell_other _ _ _ _ (by simp)).trans h.n
  exact ⟨(heap_setCell_other _ _ _ _ (by simp)).trans h1, heap_setCell_same _ _ _ _ _ _ h2⟩
theorem BE.kept {W W' : World} {row : Option Nat} {R : Nat} {b : Bool} {n : Int} (h : BE W R b n) (hg : W.grownBy W' row) (hr : ∀ r, row = some r → ∃ o : Obj, W.heap[r]? = some o ∧ o.isCells = false) : BE W' R b n :=
  ⟨(grownBy_keeps_cells hg hr h.b rfl).trans h.b, (grownBy_keeps_cells hg hr h.n rfl).trans h.n⟩

/-- Where Equal begins: two faces, two results. -/
structure EqAt (w : World) (f g : Fc) (A A2 : Option Addr) (c c2 : Nat) (B : Nat) : Prop where
  f : FaceAt w B f A c
  g : FaceAt w (B + 1) g A2 c2
  r : BE w (B + 2) false 0
theorem EqAt.below {w w' : World} {f g : Fc} {A A2 : Option Addr} {c c2 B : Nat} (h : EqAt w f g A A2 c c2 B) (hb : Below w.heap.size w w') : EqAt w' f g A A2 c c2 B := ⟨h.f.below hb, h.g.below hb, h.r.below hb⟩
theorem eq_start (w : World) {f g : Fc} {A A2 : Option Addr} (c c2 : Nat) (hf : ItsOk w A f.items) (hg : ItsOk w A2 g.items) :
    EqAt ((((w.alloc (.cells #[.int .i64 f.shape, .int .i64 f.size, .int .i64 f.height, .slice A f.items.length c] 25)).alloc (.cells #[.int .i64 g.shape, .int .i64 g.size, .int .i64 g.height, .slice A2 g.items.length c2] 25)).alloc (.cells #[.bool false] 4)).alloc (.cells #[.int .i64 0] 26)) f g A A2 c c2 w.heap.size ∧
    Below w.heap.size w ((((w.alloc (.cells #[.int .i64 f.shape, .int .i64 f.size, .int .i64 f.height, .slice A f.items.length c] 25)).alloc (.cells #[.int .i64 g.shape, .int .i64 g.size, .int .i64 g.height, .slice A2 g.items.length c2] 25)).alloc (.cells #[.bool false] 4)).alloc (.cells #[.int .i64 0] 26)) := by
  have h1 := FaceAt.new w c hf
  have hb1 := below_alloc w (.cells #[.int .i64 f.shape, .int .i64 f.size, .int .i64 f.height, .slice A f.items.length c] 25)
  have hs1 : (w.alloc (.cells #[.int .i64 f.shape, .int .i64 f.size, .int .i64 f.height, .slice A f.items.length c] 25)).heap.size = w.heap.size + 1 := by simp
  generalize w.alloc (.cells #[.int .i64 f.shape, .int .i64 f.size, .int .i64 f.height, .slice A f.items.length c] 25) = W1 at *
  have h2 := FaceAt.new W1 c2 (hg.below hb1)
  have hb2 := below_alloc W1 (.cells #[.int .i64 g.shape, .int .i64 g.size, .int .i64 g.height, .slice A2 g.items.length c2] 25)
  have hs2 : (W1.alloc (.cells #[.int .i64 g.shape, .int .i64 g.size, .int .i64 g.height, .slice A2 g.items.length c2] 25)).heap.size = W1.heap.size + 1 := by simp
  generalize W1.alloc (.cells #[.int .i64 g.shape, .int .i64 g.size, .int .i64 g.height, .slice A2 g.items.length c2] 25) = W2 at *
  have hb3 := below_alloc W2 (.cells #[.bool false] 4)
  have n3 := heap_alloc_new W2 (.cells #[.bool false] 4)
  have hs3 : (W2.alloc (.cells #[.bool false] 4)).heap.size = W2.heap.size + 1 := by simp
  generalize W2.alloc (.cells #[.bool false] 4) = W3 at *
  have hb4 := below_alloc W3 (.cells #[.int .i64 0] 26)
  have n4 := heap_alloc_new W3 (.cells #[.int .i64 0] 26)
  generalize W3.alloc (.cells #[.int .i64 0] 26) = W4 at *
  have e2 : W2.heap.size = w.heap.size + 2 := by omega
  have e3 : W3.heap.size = w.heap.size + 2 + 1 := by omega
  have b24 : Below W2.heap.size W2 W4 := hb3.trans (hb4.mono hb3.size)
  have b14 : Below W1.heap.size W1 W4 := hb2.trans (b24.mono hb2.size)
  refine ⟨⟨h1.below b14, ?_, ?_, ?_⟩, hb1.trans (b14.mono hb1.size)⟩
  · rw [← hs1]; exact h2.below b24
  · rw [← e2]; exact (hb4.block _ (by omega)).trans n3
  · rw [← e3]; exact n4

set_option maxHeartbeats 4000000 in
set_option maxRecDepth 100000 in
theorem pequal_ok (f g : Fc) (A A2 : Option Addr) (c c2 : Nat) (w : World) (hit : ItsOk w A f.items) (hit2 : ItsOk w A2 g.items) (hf : fcB f = true) (hg : fcB g = true) (h1 : f.size = g.size) (h2 : heiF f = heiF g) :
    Calls Tryz.prog 44 #[.agg #[.int .i64 f.shape, .int .i64 f.size, .int .i64 f.height, .slice A f.items.length c], .agg #[.int .i64 g.shape, .int .i64 g.size, .int .i64 g.height, .slice A2 g.items.length c2]] w fun e w' => e = .returned (.tuple #[.bool (lookB f g), .int .i64 0]) ∧ Below w.heap.size w w' := by
  obtain ⟨s0, s1⟩ := size_bounds hf
  obtain ⟨t0, t1⟩ := heiF_bounds hf
  obtain ⟨hE, hB⟩ := eq_start w c c2 hit hit2
  have HFF := hid hf
  have HGG := hid hg
  have HE := hid hE
  have HB := hid hB
  have H1 := hid h1
  have H2 := hid h2
  obtain ⟨u0, u1⟩ := size_bounds hg
  clear hE hB hit hit2 hf hg h1 h2
  refine (callsIn_wide (n := 9)).1 ?_
  refine callsIn_of_wp_marks Tryz.func44 rfl trivial ?_ rfl
  simp only [Tryz.ntmps44, List.size_toArray, List.length_cons, List.length_nil, Nat.reduceAdd, Nat.reduceSub, Array.replicate_succ, Array.replicate_zero, List.push_toArray, List.append_toArray, List.nil_append, List.cons_append]
  refine wpIn_wide.2 ?_
  go_upto_region 1 with (fail)
  generalize (((w.alloc (.cells #[.int .i64 f.shape, .int .i64 f.size, .int .i64 f.height, .slice A f.items.length c] 25)).alloc (.cells #[.int .i64 g.shape, .int .i64 g.size, .int .i64 g.height, .slice A2 g.items.length c2] 25)).alloc (.cells #[.bool false] 4)).alloc (.cells #[.int .i64 0] 26) = W at *
  obtain ⟨B, hBB⟩ : ∃ B, B = w.heap.size := ⟨_, rfl⟩
  have HBB := hid hBB
  rw [← hBB] at HE ⊢
  clear hBB
  obtain ⟨c0, c1, c2', c3⟩ := (unhid HE).f.cells
  go_wp2_with fail
  refine (valid_calls f A c W (unhid HE).f.ok).mono ?_
  rintro e w1 ⟨rfl, hb⟩
  rw [unhid HFF]
  have HE := hid ((unhid HE).below hb)
  have HB := hid ((unhid HB).trans (hb.mono (unhid HB).size))
  clear hb c0 c1 c2' c3
  obtain ⟨d0, d1, d2, d3⟩ := (unhid HE).g.cells
  go_wp2_with fail
  refine (valid_calls g A2 c2 w1 (unhid HE).g.ok).mono ?_
  rintro e w2 ⟨rfl, hb⟩
  rw [unhid HGG]
  have HE := hid ((unhid HE).below hb)
  have HB := hid ((unhid HB).trans (hb.mono (unhid HB).size))
  clear hb d0 d1 d2 d3
  obtain ⟨c0, c1, c2', c3⟩ := (unhid HE).f.cells
  go_wp2_with fail
  refine (extent_calls f A c w2 (by omega) (by omega)).mono ?_
  rintro e w3 ⟨rfl, hb⟩
  have HE := hid ((unhid HE).below hb)
  have HB := hid ((unhid HB).trans (hb.mono (unhid HB).size))
  clear hb c0 c1 c2' c3
  obtain ⟨d0, d1, d2, d3⟩ := (unhid HE).g.cells
  go_wp2_with fail
  refine (extent_calls g A2 c2 w3 (by omega) (by omega)).mono ?_
  rintro e w4 ⟨rfl, hb⟩
  rw [← unhid H1, ← unhid H2]
  have HE := hid ((unhid HE).below hb)
  have HB := hid ((unhid HB).trans (hb.mono (unhid HB).size))
  clear hb d0 d1 d2 d3
  obtain ⟨c0, c1, c2', c3⟩ := (unhid HE).f.cells
  have q1 : (f.size != f.size) = false := by simp
  have q2 : (heiF f != heiF f) = false := by simp
  go_wp2_with fail
  refine (pdots_calls f A c w4 (by omega) (by omega)).mono ?_
  rintro e w5 ⟨hb, bh, bw, rfl, cbh, cbw, lbh, lbw⟩
  have HE := hid ((unhid HE).below hb)
  have HB := hid ((unhid HB).trans (hb.mono (unhid HB).size))
  clear hb c0 c1 c2' c3 q1 q2
  obtain ⟨W0, hW0⟩ : ∃ W0 : Nat, W0 = f.size.toNat := ⟨_, rfl⟩
  obtain ⟨H0, hH0⟩ : ∃ H0 : Nat, H0 = (heiF f).toNat := ⟨_, rfl⟩
  have hWI : (W0 : Int) = f.size := by omega
  have hHI : (H0 : Int) = heiF f := by omega
  have hN : numD f = W0 * H0 := by rw [hW0, hH0]; rfl
  go_wp2_with fail
  have HWI := hid hWI
  have HHI := hid hHI
  have HN := hid hN
  rw [← hHI] at cbh
  rw [← hWI] at cbw
  have hIE : ∀ x : Fin (numD f), (pxI W0 x.val) < f.size ∧ (pxJ W0 x.val) < heiF f := fun x => by rw [hW0]; exact pix_lt x.isLt
  have HIE := hid hIE
  have hW1 : 1 ≤ W0 ∧ W0 ≤ 1000 := by omega
  have hH1 : H0 ≤ 1000 := by omega
  have hFN : ∀ n : Nat, n < numD f → (colI f (pxI W0 n) (pxJ W0 n) = dotK f f.items.length n ∧ colI g (pxI W0 n) (pxJ W0 n) = dotK g g.items.length n) := fun n hn => ⟨by rw [hW0]; rfl, by rw [hW0, unhid H1]; rfl⟩
  have HFN := hid hFN
  have hB5 : B + 3 < w5.heap.size := (unhid HE).r.lt
  have hB0 : w.heap.size ≤ B + 2 := by have := unhid HBB; omega
  have HB5 := hid hB5
  have HB0 := hid hB0
  have hws : w.heap.size ≤ w5.heap.size := (unhid HB).size
  have HWS := hid hws
  clear hIE hFN hWI hHI hN hW0 hH0 hB5 hB0 hws
  refine (wpIn_wide (n := 9)).1 ?_
  refine wpIn_rangeFunc_ownF (α := Fin (numD f)) rfl (by omega) (gf := 105) (lb := #[.pointer (some ⟨bh, 0, none⟩), .pointer (some ⟨bw, 0, none⟩)]) rfl trivial (enters_of Tryz.func105 (by kernel_rfl) rfl)
    (dots_stops Fence.wide 8 trivial rfl (by omega) bh bw W0 H0 (numD f) w5.heap.size (unhid HN) hW1 hH1 w5 (Nat.le_refl _) cbh cbw ⟨lbh, lbw⟩) belowK_t (belowK_b (Nat.le_refl _)) (Below.refl _ _) (fun _ => rfl)
    (fun pre W => (∀ x ∈ pre, colI f (pxI W0 x.val) (pxJ W0 x.val) = colI g (pxI W0 x.val) (pxJ W0 x.val)) ∧ Below w5.heap.size w5 W)
    (fun cd pre W => ((cd = .ret ∧ ∃ x ∈ pre, colI f (pxI W0 x.val) (pxJ W0 x.val) ≠ colI g (pxI W0 x.val) (pxJ W0 x.val)) ∧ BE W (B + 2) false 0) ∧ Below w.heap.size w W)
    (OwnFrom.and (ownFrom_pure _ _) (ownFrom_below (Nat.le_refl _) (Nat.le_refl _)))
    (fun cd => OwnFrom.and (OwnFrom.and (ownFrom_pure _ _) (Own.from (fun s A B row hs hg hr => hs.kept hg hr) _)) (ownFrom_below (Nat.le_refl _) (unhid HWS)))
    ⟨by simp, Below.refl _ _⟩
    ?a1 ?assign ?body ?done ?stop
  case assign =>
    intro l x W K hK
    simp only [pxV]
    gi_wp2
    exact hK
  case body =>
    rintro l pre x W ⟨hall, hbel⟩ hlt
    obtain ⟨hx1, hx2⟩ := (unhid HIE) x
    have hx0 : (0 : Int) ≤ (pxI W0 x.val) := Int.natCast_nonneg _
    have hx3 : (0 : Int) ≤ (pxJ W0 x.val) := Int.natCast_nonneg _
    have hE' := (unhid HE).below hbel
    have HFW := hid (fun p : After W => hE'.f.below p.below)
    have HGW := hid (fun p : After W => hE'.g.below p.below)
    have a0 : ∀ p : After W, p.w.cell? ⟨B, 0, none⟩ = some (.int .i64 f.shape) := fun p => ((unhid HFW) p).cells.1
    have a1 : ∀ p : After W, p.w.cell? ⟨B, 1, none⟩ = some (.int .i64 f.size) := fun p => ((unhid HFW) p).cells.2.1
    have a2 : ∀ p : After W, p.w.cell? ⟨B, 2, none⟩ = some (.int .i64 f.height) := fun p => ((unhid HFW) p).cells.2.2.1
    have a3 : ∀ p : After W, p.w.cell? ⟨B, 3, none⟩ = some (.slice A f.items.length c) := fun p => ((unhid HFW) p).cells.2.2.2
    have b0 : ∀ p : After W, p.w.cell? ⟨B + 1, 0, none⟩ = some (.int .i64 g.shape) := fun p => ((unhid HGW) p).cells.1
    have b1 : ∀ p : After W, p.w.cell? ⟨B + 1, 1, none⟩ = some (.int .i64 g.size) := fun p => ((unhid HGW) p).cells.2.1
    have b2 : ∀ p : After W, p.w.cell? ⟨B + 1, 2, none⟩ = some (.int .i64 g.height) := fun p => ((unhid HGW) p).cells.2.2.1
    have b3 : ∀ p : After W, p.w.cell? ⟨B + 1, 3, none⟩ = some (.slice A2 g.items.length c2) := fun p => ((unhid HGW) p).cells.2.2.2
    have KF := hid (fun p : After W => colour_calls f A c (pxI W0 x.val) (pxJ W0 x.val) p.w ((unhid HFW) p).ok (unhid HFF) ⟨hx0, hx1⟩ ⟨hx3, hx2⟩)
    have KG := hid (fun p : After W => colour_calls g A2 c2 (pxI W0 x.val) (pxJ W0 x.val) p.w ((unhid HGW) p).ok (unhid HGG) ⟨hx0, by rw [← unhid H1]; exact hx1⟩ ⟨hx3, by rw [← unhid H2]; exact hx2⟩)
    have HALL := hid hall
    have HBL := hid hbel
    have HR := hid hE'.r
    clear hall hbel hE' HFW HGW hx0 hx1 hx2 hx3
    have HIN := hid (show ∀ u v : Int, u = colI f (pxI W0 x.val) (pxJ W0 x.val) → v = colI g (pxI W0 x.val) (pxJ W0 x.val) → (u = v → ∀ y ∈ pre ++ [x], colI f (pxI W0 y.val) (pxJ W0 y.val) = colI g (pxI W0 y.val) (pxJ W0 y.val)) ∧ (u ≠ v → ∃ y ∈ pre ++ [x], colI f (pxI W0 y.val) (pxJ W0 y.val) ≠ colI g (pxI W0 y.val) (pxJ W0 y.val)) from fun u v hu hv =>
      ⟨fun e y hy => (List.mem_append.1 hy).elim ((unhid HALL) y) (fun h => by simp at h; subst h; rw [← hu, ← hv]; exact e), fun e => ⟨x, List.mem_append.2 (.inr (by simp)), by rw [← hu, ← hv]; exact e⟩⟩)
    obtain ⟨u, hu⟩ : ∃ u, u = colI f (pxI W0 x.val) (pxJ W0 x.val) := ⟨_, rfl⟩
    obtain ⟨v, hv⟩ : ∃ v, v = colI g (pxI W0 x.val) (pxJ W0 x.val) := ⟨_, rfl⟩
    have HIN := hid ((unhid HIN) u v hu hv)
    rw [← hu] at KF
    rw [← hv] at KG
    clear hu hv
    have tokF : True := trivial
    have tokG : True := trivial
    gi_wp2_with fail
    refine wpIn_region_below (by kernel_rfl) (by kernel_rfl) (by kernel_rfl) ?_
    gi_big_quiet_step (fail)
    gi_big_quiet_step (fail)
    gi_big_quiet_step (fail)
    gi_big_quiet_step ((gi_at_call 72; exact callsIn_wide.2 (Calls.after_of ((unhid KF) _))))
    gi_big_quiet_step (fail)
    gi_big_quiet_step (fail)
    gi_big_quiet_step (fail)
    gi_big_quiet_step ((gi_at_call 72; exact callsIn_wide.2 (Calls.after_of ((unhid KG) _))))
    gi_big_quiet_step (fail)
    refine wpQuietIn_nil ?_
    intro wq hw'
    obtain ⟨⟨wq2, hbq⟩, hw''⟩ := hw'
    dsimp only at hw''
    subst hw''
    clear a0 a1 a2 a3 b0 b1 b2 b3
    have HBQ := hid hbq
    have hr := (unhid HR).below hbq
    clear hbq
    by_cases huv : u = v
    · have hc : (u != v) = false := by simp [huv]
      have HQ := hid ((unhid HIN).1 huv)
      clear huv hr
      gi_wp2
      exact ⟨keepsOthers_below (unhid HBQ), (unhid HBQ).mono (unhid HBL).size, unhid HQ, (unhid HBL).trans ((unhid HBQ).mono (unhid HBL).size)⟩
    · have hc : (u != v) = true := by simp [huv]
      have HQ := hid ((unhid HIN).2 huv)
      obtain ⟨m0, m1, m2, m3⟩ := hr.cells
      have HR2 := hid hr
      clear huv hr
      gi_wp2
      have hb2 := (unhid HB).trans (((unhid HBL).trans ((unhid HBQ).mono (unhid HBL).size)).mono (unhid HWS))
      exact ⟨(keepsOthers_below (unhid HBQ)).trans ((KeepsOthers.setCell _ _ _).trans (KeepsOthers.setCell _ _ _)), ⟨⟨rfl, unhid HQ⟩, BE.set (unhid HR2)⟩, Below.setCell (Below.setCell hb2 (unhid HB0) _) (Nat.le_succ_of_le (unhid HB0)) _⟩
  case done =>
    rintro D ys W hD rfl ⟨hall, hbel⟩ hK
    have hbe := (unhid HE).r.below hbel
    obtain ⟨m0, m1, m2, m3⟩ := hbe.cells
    have HR := hid hbe
    have HQ := hid (look_true (unhid H1) (unhid H2) (fun n hn => by
      obtain ⟨e1, e2⟩ := (unhid HFN) n hn
      rw [← e1, ← e2]
      exact hall ⟨n, hn⟩ (List.mem_finRange _)))
    have HBL := hid hbel
    have HD := hid hD
    clear hall hbel hbe hD
    go_wp2_with fail
    have hK' := ((KeepsOthers.setCell W ⟨B + 2, 0, none⟩ (.bool true)).trans (KeepsOthers.setCell _ ⟨B + 2 + 1, 0, none⟩ (.int .i64 0))).same D _ hK rfl
    have hbe2 := (BE.set (b' := true) (n' := 0) (unhid HR)).kept (grownBy_putObj' _ D (.deferred none)) (fun r e => by cases e; exact ⟨_, hK', rfl⟩)
    have hb2 := Below.setCell (p := ⟨B + 2 + 1, 0, none⟩) (Below.setCell (p := ⟨B + 2, 0, none⟩) ((unhid HB).trans ((unhid HBL).mono (unhid HWS))) (unhid HB0) (.bool true)) (Nat.le_succ_of_le (unhid HB0)) (.int .i64 0)
    refine ⟨by simp, .inl ⟨_, _, rfl, run_takeDeferred hK', ?_⟩⟩
    exact ⟨_, results_be rfl _ _ (B + 2) (B + 2 + 1) true 0 rfl rfl hbe2.cells.1 hbe2.cells.2.1, by rw [unhid HQ], hb2.trans (belowK_b (w := w) (Nat.le_refl _) _ D _ _ (Nat.le_trans (unhid HWS) (unhid HD)) hK' rfl rfl)⟩
  case stop =>
    rintro D cd pre W hD hpre ⟨⟨⟨rfl, x, hx, hne⟩, hbe⟩, hbel⟩ hK
    have HQ := hid (look_dot x.isLt (show dotK f f.items.length x.val ≠ dotK g g.items.length x.val by
      obtain ⟨e1, e2⟩ := (unhid HFN) x.val x.isLt
      rw [← e1, ← e2]
      exact hne))
    refine (wpIn_wide (n := 9)).2 ?_
    go_wp2_with fail
    have hbe2 := hbe.kept (grownBy_putObj' _ D (.deferred none)) (fun r e => by cases e; exact ⟨_, hK, rfl⟩)
    refine ⟨by simp, .inl ⟨_, _, rfl, run_takeDeferred hK, ?_⟩⟩
    exact ⟨_, results_be rfl _ _ (B + 2) (B + 2 + 1) false 0 rfl rfl hbe2.cells.1 hbe2.cells.2.1, by rw [unhid HQ], hbel.trans (belowK_b (w := w) (Nat.le_refl _) _ D _ _ (Nat.le_trans (unhid HWS) hD) hK rfl rfl)⟩

set_option maxHeartbeats 4000000 in
set_option maxRecDepth 100000 in
theorem pequal_no (f g : Fc) (A A2 : Option Addr) (c c2 : Nat) (w : World) (hit : ItsOk w A f.items) (hit2 : ItsOk w A2 g.items) (hv : ¬ (fcB f = true ∧ fcB g = true)) :
    Calls Tryz.prog 44 #[.agg #[.int .i64 f.shape, .int .i64 f.size, .int .i64 f.height, .slice A f.items.length c], .agg #[.int .i64 g.shape, .int .i64 g.size, .int .i64 g.height, .slice A2 g.items.length c2]] w fun e w' => e = .returned (.tuple #[.bool false, .int .i64 10]) ∧ Below w.heap.size w w' := by
  obtain ⟨hE, hB⟩ := eq_start w c c2 hit hit2
  have HE := hid hE
  have HB := hid hB
  have HV := hid hv
  clear hE hB hit hit2 hv
  go_enter Tryz.func44, Tryz.ntmps44
  go_upto_region 1 with (fail)
  generalize (((w.alloc (.cells #[.int .i64 f.shape, .int .i64 f.size, .int .i64 f.height, .slice A f.items.length c] 25)).alloc (.cells #[.int .i64 g.shape, .int .i64 g.size, .int .i64 g.height, .slice A2 g.items.length c2] 25)).alloc (.cells #[.bool false] 4)).alloc (.cells #[.int .i64 0] 26) = W at *
  obtain ⟨B, hBB⟩ : ∃ B, B = w.heap.size := ⟨_, rfl⟩
  have HBB := hid (show w.heap.size ≤ B + 2 by omega)
  rw [← hBB] at HE ⊢
  clear hBB
  obtain ⟨c0, c1, c2', c3⟩ := (unhid HE).f.cells
  go_wp2_with fail
  refine (valid_calls f A c W (unhid HE).f.ok).mono ?_
  rintro e w1 ⟨rfl, hb⟩
  have HE := hid ((unhid HE).below hb)
  have HB := hid ((unhid HB).trans (hb.mono (unhid HB).size))
  clear hb c0 c1 c2' c3
  cases hf : fcB f with
  | false =>
    obtain ⟨m0, m1, m2, m3⟩ := (unhid HE).r.cells
    have HS := hid (BE.set (b' := false) (n' := 10) (unhid HE).r).cells
    have HB2 := hid (Below.setCell (p := ⟨B + 2 + 1, 0, none⟩) (Below.setCell (p := ⟨B + 2, 0, none⟩) (unhid HB) (unhid HBB) (.bool false)) (Nat.le_succ_of_le (unhid HBB)) (.int .i64 10))
    clear hf
    go_wp2_with fail
    refine bodyPost_ret_by (v := .tuple #[.bool false, .int .i64 10]) (results_be Tryz.results44 _ _ (B + 2) (B + 2 + 1) false 10 rfl rfl (unhid HS).1 (unhid HS).2.1) rfl ?_
    exact ⟨rfl, unhid HB2⟩
  | true =>
    have hg : fcB g = false := by
      cases e : fcB g with
      | false => rfl
      | true => exact absurd ⟨hf, e⟩ (unhid HV)
    have HG := hid hg
    clear hf hg
    obtain ⟨d0, d1, d2, d3⟩ := (unhid HE).g.cells
    go_wp2_with fail
    refine (valid_calls g A2 c2 w1 (unhid HE).g.ok).mono ?_
    rintro e w2 ⟨rfl, hb⟩
    rw [unhid HG]
    have HE := hid ((unhid HE).below hb)
    have HB := hid ((unhid HB).trans (hb.mono (unhid HB).size))
    clear hb d0 d1 d2 d3
    obtain ⟨m0, m1, m2, m3⟩ := (unhid HE).r.cells
    have HS := hid (BE.set (b' := false) (n' := 10) (unhid HE).r).cells
    have HB2 := hid (Below.setCell (p := ⟨B + 2 + 1, 0, none⟩) (Below.setCell (p := ⟨B + 2, 0, none⟩) (unhid HB) (unhid HBB) (.bool false)) (Nat.le_succ_of_le (unhid HBB)) (.int .i64 10))
    go_wp2_with fail
    refine bodyPost_ret_by (v := .tuple #[.bool false, .int .i64 10]) (results_be Tryz.results44 _ _ (B + 2) (B + 2 + 1) false 10 rfl rfl (unhid HS).1 (unhid HS).2.1) rfl ?_
    exact ⟨rfl, unhid HB2⟩

set_option maxHeartbeats 4000000 in
set_option maxRecDepth 100000 in
theorem pequal_ext (f g : Fc) (A A2 : Option Addr) (c c2 : Nat) (w : World) (hit : ItsOk w A f.items) (hit2 : ItsOk w A2 g.items) (hf : fcB f = true) (hg : fcB g = true) (hv : ¬ (f.size = g.size ∧ heiF f = heiF g)) :
    Calls Tryz.prog 44 #[.agg #[.int .i64 f.shape, .int .i64 f.size, .int .i64 f.height, .slice A f.items.length c], .agg #[.int .i64 g.shape, .int .i64 g.size, .int .i64 g.height, .slice A2 g.items.length c2]] w fun e w' => e = .returned (.tuple #[.bool (lookB f g), .int .i64 0]) ∧ Below w.heap.size w w' := by
  obtain ⟨s0, s1⟩ := size_bounds hf
  obtain ⟨u0, u1⟩ := size_bounds hg
  obtain ⟨hE, hB⟩ := eq_start w c c2 hit hit2
  have HFF := hid hf
  have HGG := hid hg
  have HE := hid hE
  have HB := hid hB
  have HV := hid hv
  have HQ := hid (look_false hv)
  clear hE hB hit hit2 hv hf hg
  go_enter Tryz.func44, Tryz.ntmps44
  go_upto_region 1 with (fail)
  generalize (((w.alloc (.cells #[.int .i64 f.shape, .int .i64 f.size, .int .i64 f.height, .slice A f.items.length c] 25)).alloc (.cells #[.int .i64 g.shape, .int .i64 g.size, .int .i64 g.height, .slice A2 g.items.length c2] 25)).alloc (.cells #[.bool false] 4)).alloc (.cells #[.int .i64 0] 26) = W at *
  obtain ⟨B, hBB⟩ : ∃ B, B = w.heap.size := ⟨_, rfl⟩
  have HBB := hid (show w.heap.size ≤ B + 2 by omega)
  rw [← hBB] at HE ⊢
  clear hBB
  obtain ⟨c0, c1, c2', c3⟩ := (unhid HE).f.cells
  go_wp2_with fail
  refine (valid_calls f A c W (unhid HE).f.ok).mono ?_
  rintro e w1 ⟨rfl, hb⟩
  rw [unhid HFF]
  have HE := hid ((unhid HE).below hb)
  have HB := hid ((unhid HB).trans (hb.mono (unhid HB).size))
  clear hb c0 c1 c2' c3
  obtain ⟨d0, d1, d2, d3⟩ := (unhid HE).g.cells
  go_wp2_with fail
  refine (valid_calls g A2 c2 w1 (unhid HE).g.ok).mono ?_
  rintro e w2 ⟨rfl, hb⟩
  rw [unhid HGG]
  have HE := hid ((unhid HE).below hb)
  have HB := hid ((unhid HB).trans (hb.mono (unhid HB).size))
  clear hb d0 d1 d2 d3
  obtain ⟨c0, c1, c2', c3⟩ := (unhid HE).f.cells
  go_wp2_with fail
  refine (extent_calls f A c w2 (by omega) (by omega)).mono ?_
  rintro e w3 ⟨rfl, hb⟩
  have HE := hid ((unhid HE).below hb)
  have HB := hid ((unhid HB).trans (hb.mono (unhid HB).size))
  clear hb c0 c1 c2' c3
  obtain ⟨d0, d1, d2, d3⟩ := (unhid HE).g.cells
  go_wp2_with fail
  refine (extent_calls g A2 c2 w3 (by omega) (by omega)).mono ?_
  rintro e w4 ⟨rfl, hb⟩
  have HE := hid ((unhid HE).below hb)
  have HB := hid ((unhid HB).trans (hb.mono (unhid HB).size))
  clear hb d0 d1 d2 d3
  obtain ⟨m0, m1, m2, m3⟩ := (unhid HE).r.cells
  have HS := hid (BE.set (b' := false) (n' := 0) (unhid HE).r).cells
  have HB2 := hid (Below.setCell (p := ⟨B + 2 + 1, 0, none⟩) (Below.setCell (p := ⟨B + 2, 0, none⟩) (unhid HB) (unhid HBB) (.bool false)) (Nat.le_succ_of_le (unhid HBB)) (.int .i64 0))
  by_cases h1 : f.size = g.size
  · have h2 : ¬ heiF f = heiF g := fun e => (unhid HV) ⟨h1, e⟩
    have q1 : (f.size != g.size) = false := by simp [h1]
    have q2 : (heiF f != heiF g) = true := by simp [h2]
    clear h1 h2
    go_wp2_with fail
    refine bodyPost_ret_by (v := .tuple #[.bool false, .int .i64 0]) (results_be Tryz.results44 _ _ (B + 2) (B + 2 + 1) false 0 rfl rfl (unhid HS).1 (unhid HS).2.1) rfl ?_
    exact ⟨by rw [unhid HQ], unhid HB2⟩
  · have q1 : (f.size != g.size) = true := by simp [h1]
    clear h1
    go_wp2_with fail
    refine bodyPost_ret_by (v := .tuple #[.bool false, .int .i64 0]) (results_be Tryz.results44 _ _ (B + 2) (B + 2 + 1) false 0 rfl rfl (unhid HS).1 (unhid HS).2.1) rfl ?_
    exact ⟨by rw [unhid HQ], unhid HB2⟩

/-- What Equal returns. -/
noncomputable def equalR (f g : Fc) : Value := if fcB f = true ∧ fcB g = true then .tuple #[.bool (lookB f g), .int .i64 0] else .tuple #[.bool false, .int .i64 10]
theorem pequal_calls (f g : Fc) (A A2 : Option Addr) (c c2 : Nat) (w : World) (hit : ItsOk w A f.items) (hit2 : ItsOk w A2 g.items) :
    Calls Tryz.prog 44 #[.agg #[.int .i64 f.shape, .int .i64 f.size, .int .i64 f.height, .slice A f.items.length c], .agg #[.int .i64 g.shape, .int .i64 g.size, .int .i64 g.height, .slice A2 g.items.length c2]] w fun e w' => e = .returned (equalR f g) ∧ Below w.heap.size w w' := by
  unfold equalR
  by_cases hv : fcB f = true ∧ fcB g = true
  · rw [if_pos hv]
    by_cases h : f.size = g.size ∧ heiF f = heiF g
    · exact pequal_ok f g A A2 c c2 w hit hit2 hv.1 hv.2 h.1 h.2
    · exact pequal_ext f g A A2 c c2 w hit hit2 hv.1 hv.2 h
  · rw [if_neg hv]
    exact pequal_no f g A A2 c c2 w hit hit2 hv

end Go.Proofs.YtmagidoodlkeoaaGreatDoor
