/-
  The sheet that a face of a type needs, both sides.
-/
import Derived.Test.YtbnnnjkfhffekaaGreatDoorWoU
set_option linter.unusedSimpArgs false
set_option linter.unusedVariables false
namespace Go.Proofs.YtbnnnjkfhffekaaGreatDoor
open Go.RowKit Go.Deep

theorem WE_two2 {P : Program} {l : List Oper} {Q : Exit → Act → World → Prop} {md : Region.Mode} {S : World → Prop} {s i j : Nat} {o o' : Oper} {f : Nat} {listed : Array Bool} {a : Act} {w : World} (hi : l[i]? = some o) (hj : l[j]? = some o') (his : i < s) (hjs : j < s) (hr : Region.ready md l.toArray listed = [i, j])
    (h : ∀ K : Act → World → Prop, Shut (∀ a w, S w → (S w → WE P md l Q S s f (listed.setIfInBounds i true) a w) → K a w) → if Region.wanted o (yielded l.toArray a.tmps) = true then Oper.wp P o a w K Q else K (a.put o.dst undef) w)
    (h' : ∀ K : Act → World → Prop, Shut (∀ a w, S w → (S w → WE P md l Q S s f (listed.setIfInBounds j true) a w) → K a w) → if Region.wanted o' (yielded l.toArray a.tmps) = true then Oper.wp P o' a w K Q else K (a.put o'.dst undef) w) :
    WE P md l Q S s (f + 1) listed a w := fun inv => by
  have hi' : l.toArray[i]? = some o := by simpa using hi
  have hj' : l.toArray[j]? = some o' := by simpa using hj
  have hmi : i ∈ Region.ready md l.toArray listed := by rw [hr]; simp
  have hmj : j ∈ Region.ready md l.toArray listed := by rw [hr]; simp
  refine ⟨fun h => (by rw [h] at hr; cases hr), fun q hq => ?_⟩
  rw [hr] at hq
  rcases (show q = i ∨ q = j from by simpa using hq) with rfl | rfl
  · exact wpOp_step hi' (fun K hK => h K (fun a w hS hW => hK a w ⟨fun _ => hS, hW hS (inv.set hmi his)⟩))
  · exact wpOp_step hj' (fun K hK => h' K (fun a w hS hW => hK a w ⟨fun _ => hS, hW hS (inv.set hmj hjs)⟩))
def nd (a b c d e : Int) : Array Value := #[.int .i64 a, .int .i64 b, .int .i64 c, .int .i64 d, .int .i64 e]
theorem nd_one (a b c d e : Int) : (nd a b c d e).all (·.oneCell') = true := by simp [nd, Value.oneCell']
theorem nd_size (a b c d e : Int) : (Tryz.prog.info? 54).map (·.size) = some (nd a b c d e).size := by
  show _ = some 5
  kernel_rfl
/-- The greatest of the first k numbers. -/
def maxK (l : List Int) : Nat → Int
  | 0 => 0
  | k + 1 => max (maxK l k) (l.getD k 0)
/-- What Need answers. -/
def needV (t : Ty) (width : Int) : Array Value := if strE t width = 0 then nd t.grade (gndF (facP t)) (maxK (strL t width) (strL t width).length) (heiF (facP t)) (strL t width).length else nd 0 0 0 0 0
theorem needV_no {t : Ty} {width : Int} (h : strE t width ≠ 0) : needV t width = nd 0 0 0 0 0 := if_neg h
theorem needV_yes {t : Ty} {width : Int} (h : strE t width = 0) : needV t width = nd t.grade (gndF (facP t)) (maxK (strL t width) (strL t width).length) (heiF (facP t)) (strL t width).length := if_pos h
theorem strL_len {t : Ty} {width : Int} (h : tyB t = true) : (strL t width).length ≤ 1001 := by
  unfold strL
  split
  · rw [widK_len]
    unfold colsL
    have := seamL_len (facP t) width (tyB_fc h)
    simp
    omega
  · simp
theorem strE_ty {t : Ty} {width : Int} (h : strE t width = 0) : tyB t = true := by
  unfold strE at h
  by_cases h1 : tyB t = true
  · exact h1
  · rw [if_neg h1] at h; cases h

set_option maxHeartbeats 4000000 in
set_option maxRecDepth 100000 in
theorem wneed_calls (t : Ty) (width : Int) (w : World) (hg : Gl w) :
    Calls Tryz.prog 22 #[.agg #[.int .i64 t.code, .int .i64 t.grade, .int .i64 t.frm, .int .i64 t.to, .string (SB t.text)], .int .i64 width] w fun e w' => e = .returned (.tuple #[.agg (needV t width), .int .i64 (strE t width)]) ∧ Below w.heap.size w w' := by
  have hb0 := below_alloc w (.cells #[.int .i64 t.code, .int .i64 t.grade, .int .i64 t.frm, .int .i64 t.to, .string (SB t.text)] 26)
  have hR0 := RB.new hb0 (nd 0 0 0 0 0) 54
  simp only [World.size_alloc] at hR0
  have HR := hid hR0
  have HT := hid ((TyAt.new w t).below (below_alloc _ (.cells (nd 0 0 0 0 0) 54)))
  have HG := hid (hg.below (unhid HR).below)
  have HNO := hid (fun h => needV_no (t := t) (width := width) h)
  have HYES := hid (fun h => needV_yes (t := t) (width := width) h)
  have HTY := hid (fun h => strE_ty (t := t) (width := width) h)
  clear hg hb0 hR0
  go_enter Tryz.func22, Tryz.ntmps22
  go_upto_region 1 with (fail)
  change Code.wp _ _ _ _ ((w.alloc (.cells #[.int .i64 t.code, .int .i64 t.grade, .int .i64 t.frm, .int .i64 t.to, .string (SB t.text)] 26)).alloc (.cells (nd 0 0 0 0 0) 54))
  generalize (w.alloc (.cells #[.int .i64 t.code, .int .i64 t.grade, .int .i64 t.frm, .int .i64 t.to, .string (SB t.text)] 26)).alloc (.cells (nd 0 0 0 0 0) 54) = W at *
  obtain ⟨s0, s1, s2, s3, s4⟩ := (unhid HT).cells
  go_wp2_with fail
  refine (wstrips_calls t width W (unhid HG)).mono ?_
  rintro e w1 ⟨hb, A, c, rfl, hr⟩
  have HR := hid ((unhid HR).after hb)
  have HT := hid ((unhid HT).below hb)
  have HG := hid ((unhid HG).below hb)
  have HRD := hid hr
  clear hb hr s0 s1 s2 s3 s4
  obtain ⟨er, her⟩ : ∃ x, x = strE t width := ⟨_, rfl⟩
  rw [← her] at HNO HYES HTY ⊢
  have HER := hid her
  clear her
  by_cases h0 : er = 0
  rotate_left
  · have d : (er != 0) = true := by simp [h0]
    have HX := hid ((unhid HNO) h0)
    clear h0 HNO HYES HTY
    go_wp2_with (refine wpList_store_row rfl 54 (.tmp 4) (.tmp 24) rfl (w.heap.size + 1) (nd 0 0 0 0 0) rfl rfl 54 _ (unhid HR).res (nd_size _ _ _ _ _) rfl (nd_one _ _ _ _ _) ?_)
    (try simp only [Exit.inBlock, Exit.then])
    refine bodyPost_ret_by (v := .tuple #[.agg (nd 0 0 0 0 0), .int .i64 er]) (results_cell_row_tmp Tryz.results22 _ _ (w.heap.size + 1) 54 (nd 0 0 0 0 0) (0, 0) _ _ rfl rfl (setRow_heap _ _ _ _ _ _ (unhid HR).res) Tryz.underlying54 rfl (nd_size _ _ _ _ _)) rfl ?_
    exact ⟨by rw [unhid HX, ← unhid HER], below_setRow (unhid HR).below (by omega) _⟩
  subst h0
  have htb := (unhid HTY) rfl
  have hf := tyB_fc htb
  have HX := hid ((unhid HYES) rfl)
  have hLn := strL_len (width := width) htb
  obtain ⟨L, hL⟩ : ∃ x, x = strL t width := ⟨_, rfl⟩
  rw [← hL] at HX HRD hLn ⊢
  clear hL HNO HYES
  have HEX := hid (fun (B1 : Option Addr) (k1 : Nat) (W : World) h => pextent_calls (facP t) B1 k1 W h)
  rw [extR_yes hf] at HEX
  have HC := hid (fun (B1 : Option Addr) (k1 : Nat) (W : World) h => wcolour_calls (facP t) B1 k1 W h hf)
  clear htb HTY
  obtain ⟨s0, s1, s2, s3, s4⟩ := (unhid HT).cells
  go_wp2_with fail
  refine (faceOf_calls t w1 (unhid HG)).mono ?_
  rintro e w2 ⟨hb, A1, c1, rfl, hi1⟩
  have HR := hid ((unhid HR).after hb)
  have HT := hid ((unhid HT).below hb)
  have HRD := hid ((unhid HRD).below hb)
  have HI := hid hi1
  clear hb hi1 s0 s1 s2 s3 s4 HG
  obtain ⟨g, hgd⟩ : ∃ x, x = facP t := ⟨_, rfl⟩
  rw [← hgd] at HI HEX HC HX ⊢
  clear hgd hf
  go_upto_region 5 with (fail)
  change Code.wp _ _ _ _ (w2.alloc (.cells #[.int .i64 g.shape, .int .i64 g.size, .int .i64 g.height, .slice A1 g.items.length c1] 60))
  have hb1 := below_alloc w2 (.cells #[.int .i64 g.shape, .int .i64 g.size, .int .i64 g.height, .slice A1 g.items.length c1] 60)
  have HR := hid ((unhid HR).after hb1)
  have HT := hid ((unhid HT).below hb1)
  have HRD := hid ((unhid HRD).below hb1)
  have HE := hid (FaceAt.new w2 c1 (unhid HI))
  generalize w2.alloc (.cells #[.int .i64 g.shape, .int .i64 g.size, .int .i64 g.height, .slice A1 g.items.length c1] 60) = w3 at *
  generalize w2.heap.size = E at *
  clear hb1 HI
  obtain ⟨e0, e1, e2, e3⟩ := (unhid HE).cells
  go_wp2_with fail
  refine ((unhid HEX) A1 c1 w3 (unhid HE).ok).mono ?_
  rintro e w4 ⟨rfl, hb⟩
  have HR := hid ((unhid HR).after hb)
  have HT := hid ((unhid HT).below hb)
  have HRD := hid ((unhid HRD).below hb)
  have HE := hid ((unhid HE).below hb)
  clear hb e0 e1 e2 e3 HEX
  have hSF : ∀ w' : World, TyAt w' w.heap.size t → FaceAt w' E g A1 c1 → (w'.cell? ⟨w.heap.size, 1, none⟩ = some (.int .i64 t.grade) ∧ w'.cell? ⟨E, 0, none⟩ = some (.int .i64 g.shape) ∧ w'.cell? ⟨E, 1, none⟩ = some (.int .i64 g.size) ∧ w'.cell? ⟨E, 2, none⟩ = some (.int .i64 g.height) ∧ w'.cell? ⟨E, 3, none⟩ = some (.slice A1 g.items.length c1)) := fun w' h1 h2 => ⟨h1.cells.2.1, h2.cells.1, h2.cells.2.1, h2.cells.2.2.1, h2.cells.2.2.2⟩
  have HSF := hid hSF
  have hdb : Below w4.heap.size w4 w4.drew := Below.drew (Below.refl _ _)
  have HR := hid ((unhid HR).after hdb)
  have HT := hid ((unhid HT).below hdb)
  have HRD := hid ((unhid HRD).below hdb)
  have HE := hid ((unhid HE).below hdb)
  clear hSF hdb
  go_wp2_with fail
  refine wp_region_noPanic ?_
  refine wp_region_E (S := fun w' => w'.cell? ⟨w.heap.size, 1, none⟩ = some (.int .i64 t.grade) ∧ w'.cell? ⟨E, 0, none⟩ = some (.int .i64 g.shape) ∧ w'.cell? ⟨E, 1, none⟩ = some (.int .i64 g.size) ∧ w'.cell? ⟨E, 2, none⟩ = some (.int .i64 g.height) ∧ w'.cell? ⟨E, 3, none⟩ = some (.slice A1 g.items.length c1)) 9 10 rfl (by kernel_rfl) (by kernel_rfl) ((unhid HSF) _ (unhid HT) (unhid HE)) ?_
  intro hSE
  generalize w4.drew = Wd at *
  (refine WE_take (i := 0) (v := ?_) rfl (by kernel_rfl) (by decide) (by kernel_rfl) (by kernel_rfl) (fun _ _ _ h => h) (by rfl) hSE ?_ ?_; rotate_left; (focus (intro w hSw; (try dsimp only at hSw); go_simp; (try with_reducible rfl))); simp only [Act.put, List.setIfInBounds_toArray, List.set_cons_zero, List.set_cons_succ])
  (refine WE_take (i := 1) (v := ?_) rfl (by kernel_rfl) (by decide) (by kernel_rfl) (by kernel_rfl) (fun _ _ _ h => h) (by rfl) hSE ?_ ?_; rotate_left; (focus (intro w hSw; (try dsimp only at hSw); go_simp; (try with_reducible rfl))); simp only [Act.put, List.setIfInBounds_toArray, List.set_cons_zero, List.set_cons_succ])
  (refine WE_take (i := 2) (v := ?_) rfl (by kernel_rfl) (by decide) (by kernel_rfl) (by kernel_rfl) (fun _ _ _ h => h) (by rfl) hSE ?_ ?_; rotate_left; (focus (intro w hSw; (try dsimp only at hSw); go_simp; (try with_reducible rfl))); simp only [Act.put, List.setIfInBounds_toArray, List.set_cons_zero, List.set_cons_succ])
  (refine WE_take (i := 4) (v := ?_) rfl (by kernel_rfl) (by decide) (by kernel_rfl) (by kernel_rfl) (fun _ _ _ h => h) (by rfl) hSE ?_ ?_; rotate_left; (focus (intro w hSw; (try dsimp only at hSw); go_simp; (try with_reducible rfl))); simp only [Act.put, List.setIfInBounds_toArray, List.set_cons_zero, List.set_cons_succ])
  (refine WE_take (i := 5) (v := ?_) rfl (by kernel_rfl) (by decide) (by kernel_rfl) (by kernel_rfl) (fun _ _ _ h => h) (by rfl) hSE ?_ ?_; rotate_left; (focus (intro w hSw; (try dsimp only at hSw); go_simp; (try with_reducible rfl))); simp only [Act.put, List.setIfInBounds_toArray, List.set_cons_zero, List.set_cons_succ])
  (refine WE_take (i := 6) (v := ?_) rfl (by kernel_rfl) (by decide) (by kernel_rfl) (by kernel_rfl) (fun _ _ _ h => h) (by rfl) hSE ?_ ?_; rotate_left; (focus (intro w hSw; (try dsimp only at hSw); go_simp; (try with_reducible rfl))); simp only [Act.put, List.setIfInBounds_toArray, List.set_cons_zero, List.set_cons_succ])
  refine WE_two2 (i := 3) (j := 8) rfl rfl (by decide) (by decide) (by kernel_rfl) ?_ ?_
  · intro K hK
    go_simp
    go_at_call 37
    refine ((unhid HC) A1 c1 Wd (unhid HE).ok).mono ?_
    rintro e w5 ⟨rfl, hb5⟩
    have HR := hid ((unhid HR).after hb5)
    have HT := hid ((unhid HT).below hb5)
    have HRD := hid ((unhid HRD).below hb5)
    have HE := hid ((unhid HE).below hb5)
    refine hK.out _ _ ((unhid HSF) _ (unhid HT) (unhid HE)) ?_
    clear hSE hK K hb5
    intro hSE
    (try simp only [Act.put, List.setIfInBounds_toArray, List.set_cons_zero, List.set_cons_succ])
    (refine WE_take (i := 7) (v := ?_) rfl (by kernel_rfl) (by decide) (by kernel_rfl) (by kernel_rfl) (fun _ _ _ h => h) (by rfl) hSE ?_ ?_; rotate_left; (focus (intro w hSw; (try dsimp only at hSw); go_simp; (try with_reducible rfl))); simp only [Act.put, List.setIfInBounds_toArray, List.set_cons_zero, List.set_cons_succ])
    (refine WE_one (i := 8) rfl (by decide) (by kernel_rfl) ?_; intro K hK)
    go_simp
    have hba := below_alloc w5 (.cells #[.int .i64 0, .int .i64 0, .int .i64 0, .int .i64 0, .int .i64 0] 54)
    have HNB := hid (heap_alloc_new w5 (.cells #[.int .i64 0, .int .i64 0, .int .i64 0, .int .i64 0, .int .i64 0] 54))
    have HBV := hid hba
    refine hK.out _ _ ((unhid HSF) _ ((unhid HT).below hba) ((unhid HE).below hba)) ?_
    clear hSE hK K hba
    intro hSE
    (try simp only [Act.put, List.setIfInBounds_toArray, List.set_cons_zero, List.set_cons_succ])
    refine WE_last rfl (by kernel_rfl) (by kernel_rfl) (by kernel_rfl) ?_
    intro K hK
    rw [if_pos (by rfl)]
    refine wp_store_row 54 (.tmp 13) (.tmp 44) rfl w5.heap.size (nd t.grade (gndF g) 0 (heiF g) L.length) rfl rfl 54 _ (unhid HNB) (nd_size _ _ _ _ _) rfl (nd_one _ _ _ _ _) ?_
    refine hK.out _ _ (NoPanic.normal ?_)
    clear hSE hK K
    have HNC := hid (setRow_heap _ _ _ (nd t.grade (gndF g) 0 (heiF g) L.length) _ _ (unhid HNB))
    have HNV := hid (below_setRow (unhid HBV) (Nat.le_refl _) (nd t.grade (gndF g) 0 (heiF g) L.length))
    have HRK := hid (fun W (h : Below w5.heap.size w5 W) => (unhid HRD).below h)
    have HBK := hid (fun W (h : Below w5.heap.size w5 W) => (unhid HR).after h)
    generalize World.setRow _ w5.heap.size (nd t.grade (gndF g) 0 (heiF g) L.length) = wc at *
    generalize w5.heap.size = N at *
    clear HNB HBV HRD HR HT HE HSF HC
    go_wp2_with fail
    go_loopw [47] (fun iv wr => ∃ k : Nat, k ≤ L.length ∧ iv = .int .i64 k ∧ wr.heap[N]? = some (.cells (nd t.grade (gndF g) (maxK L k) (heiF g) L.length) 54 (0, 0)) ∧ Below N w5 wr) (fun iv _ => L.length - (intOf iv).toNat)
    case atStart => exact ⟨0, Nat.zero_le _, rfl, unhid HNC, unhid HNV⟩
    case round =>
      obtain ⟨k, hk, rfl, hnh, hnv⟩ := hrel
      have HNH := hid hnh
      have HNW := hid hnv
      by_cases hlt : k < L.length
      · obtain ⟨b, off, rfl, hb, hc⟩ := ((unhid HRK) _ hnv) (nums_ne hlt)
        have m0 := hc k _ (nums_at hlt)
        have hki : (k : Int) < (L.length : Int) := by omega
        have n2 := cell_of_row _ N 2 _ _ _ hnh
        have f2 := frozen_of_row _ N 2 _ _ hnh
        simp [nd] at n2
        have HM := hid (show maxK L (k + 1) = max (maxK L k) (L.getD k 0) from rfl)
        obtain ⟨x, hx⟩ : ∃ x, x = L.getD k 0 := ⟨_, rfl⟩
        rw [← hx] at m0 HM
        obtain ⟨mk, hmk⟩ : ∃ x, x = maxK L k := ⟨_, rfl⟩
        rw [← hmk] at HM HNH n2
        clear hx hmk hb hc hnh hnv
        go_wp2_with fail
        go_roundw
        case rel => exact ⟨k + 1, by omega, by go_num, by rw [unhid HM]; exact heap_setCell_same _ _ _ _ _ _ (unhid HNH), Below.setCell (p := ⟨N, 2, none⟩) (unhid HNW) (Nat.le_refl _) _⟩
        case measure => simp [intOf]; omega
      · obtain rfl : k = L.length := by omega
        have HR := hid ((unhid HBK) _ hnv)
        have n0 := cell_of_row _ N 0 _ _ _ hnh
        have n1 := cell_of_row _ N 1 _ _ _ hnh
        have n2 := cell_of_row _ N 2 _ _ _ hnh
        have n3 := cell_of_row _ N 3 _ _ _ hnh
        have n4 := cell_of_row _ N 4 _ _ _ hnh
        simp [nd] at n0 n1 n2 n3 n4
        obtain ⟨mk, hmk⟩ : ∃ x, x = maxK L L.length := ⟨_, rfl⟩
        rw [← hmk] at HX n2
        clear hmk hnh hnv HNH
        go_wp2_with (refine wpList_store_row rfl 54 (.tmp 4) (.tmp 57) rfl (w.heap.size + 1) (nd t.grade (gndF g) mk (heiF g) L.length) rfl rfl 54 _ (unhid HR).res (nd_size _ _ _ _ _) rfl (nd_one _ _ _ _ _) ?_)
        (try simp only [Exit.inBlock, Exit.then])
        refine bodyPost_ret_by (v := .tuple #[.agg (nd t.grade (gndF g) mk (heiF g) L.length), .int .i64 0]) (results_cell_row_tmp Tryz.results22 _ _ (w.heap.size + 1) 54 (nd t.grade (gndF g) mk (heiF g) L.length) (0, 0) _ _ rfl rfl (setRow_heap _ _ _ _ _ _ (unhid HR).res) Tryz.underlying54 rfl (nd_size _ _ _ _ _)) rfl ?_
        exact ⟨by rw [unhid HX, ← unhid HER], below_setRow (unhid HR).below (by omega) _⟩
  · intro K hK
    go_simp
    have hba := below_alloc Wd (.cells (nd 0 0 0 0 0) 54)
    have HNA := hid (heap_alloc_new Wd (.cells (nd 0 0 0 0 0) 54))
    have HTa := hid ((unhid HT).below hba)
    have HEa := hid ((unhid HE).below hba)
    have HBA := hid hba
    refine hK.out _ _ ((unhid HSF) _ (unhid HTa) (unhid HEa)) ?_
    clear hSE hK K hba
    intro hSE
    (try simp only [Act.put, List.setIfInBounds_toArray, List.set_cons_zero, List.set_cons_succ])
    (refine WE_one (i := 3) rfl (by decide) (by kernel_rfl) ?_; intro K hK)
    go_simp
    go_at_call 37
    refine ((unhid HC) A1 c1 _ (unhid HEa).ok).mono ?_
    rintro e w5 ⟨rfl, hb5⟩
    have HNB := hid ((hb5.block _ (Array.getElem?_eq_some_iff.1 (unhid HNA)).1).trans (unhid HNA))
    have HBV := hid ((unhid HBA).trans (hb5.mono (unhid HBA).size))
    refine hK.out _ _ ((unhid HSF) _ ((unhid HTa).below hb5) ((unhid HEa).below hb5)) ?_
    clear hSE hK K hb5 HTa HEa HNA HBA
    intro hSE
    (try simp only [Act.put, List.setIfInBounds_toArray, List.set_cons_zero, List.set_cons_succ])
    (refine WE_take (i := 7) (v := ?_) rfl (by kernel_rfl) (by decide) (by kernel_rfl) (by kernel_rfl) (fun _ _ _ h => h) (by rfl) hSE ?_ ?_; rotate_left; (focus (intro w hSw; (try dsimp only at hSw); go_simp; (try with_reducible rfl))); simp only [Act.put, List.setIfInBounds_toArray, List.set_cons_zero, List.set_cons_succ])
    refine WE_last rfl (by kernel_rfl) (by kernel_rfl) (by kernel_rfl) ?_
    intro K hK
    rw [if_pos (by rfl)]
    refine wp_store_row 54 (.tmp 13) (.tmp 44) rfl Wd.heap.size (nd t.grade (gndF g) 0 (heiF g) L.length) rfl rfl 54 _ (unhid HNB) (nd_size _ _ _ _ _) rfl (nd_one _ _ _ _ _) ?_
    refine hK.out _ _ (NoPanic.normal ?_)
    clear hSE hK K
    have HNC := hid (setRow_heap _ _ _ (nd t.grade (gndF g) 0 (heiF g) L.length) _ _ (unhid HNB))
    have HNV := hid (below_setRow (unhid HBV) (Nat.le_refl _) (nd t.grade (gndF g) 0 (heiF g) L.length))
    have HRK := hid (fun W (h : Below Wd.heap.size Wd W) => (unhid HRD).below h)
    have HBK := hid (fun W (h : Below Wd.heap.size Wd W) => (unhid HR).after h)
    generalize World.setRow _ Wd.heap.size (nd t.grade (gndF g) 0 (heiF g) L.length) = wc at *
    generalize Wd.heap.size = N at *
    clear HNB HBV HRD HR HT HE HSF HC
    go_wp2_with fail
    go_loopw [47] (fun iv wr => ∃ k : Nat, k ≤ L.length ∧ iv = .int .i64 k ∧ wr.heap[N]? = some (.cells (nd t.grade (gndF g) (maxK L k) (heiF g) L.length) 54 (0, 0)) ∧ Below N Wd wr) (fun iv _ => L.length - (intOf iv).toNat)
    case atStart => exact ⟨0, Nat.zero_le _, rfl, unhid HNC, unhid HNV⟩
    case round =>
      obtain ⟨k, hk, rfl, hnh, hnv⟩ := hrel
      have HNH := hid hnh
      have HNW := hid hnv
      by_cases hlt : k < L.length
      · obtain ⟨b, off, rfl, hb, hc⟩ := ((unhid HRK) _ hnv) (nums_ne hlt)
        have m0 := hc k _ (nums_at hlt)
        have hki : (k : Int) < (L.length : Int) := by omega
        have n2 := cell_of_row _ N 2 _ _ _ hnh
        have f2 := frozen_of_row _ N 2 _ _ hnh
        simp [nd] at n2
        have HM := hid (show maxK L (k + 1) = max (maxK L k) (L.getD k 0) from rfl)
        obtain ⟨x, hx⟩ : ∃ x, x = L.getD k 0 := ⟨_, rfl⟩
        rw [← hx] at m0 HM
        obtain ⟨mk, hmk⟩ : ∃ x, x = maxK L k := ⟨_, rfl⟩
        rw [← hmk] at HM HNH n2
        clear hx hmk hb hc hnh hnv
        go_wp2_with fail
        go_roundw
        case rel => exact ⟨k + 1, by omega, by go_num, by rw [unhid HM]; exact heap_setCell_same _ _ _ _ _ _ (unhid HNH), Below.setCell (p := ⟨N, 2, none⟩) (unhid HNW) (Nat.le_refl _) _⟩
        case measure => simp [intOf]; omega
      · obtain rfl : k = L.length := by omega
        have HR := hid ((unhid HBK) _ hnv)
        have n0 := cell_of_row _ N 0 _ _ _ hnh
        have n1 := cell_of_row _ N 1 _ _ _ hnh
        have n2 := cell_of_row _ N 2 _ _ _ hnh
        have n3 := cell_of_row _ N 3 _ _ _ hnh
        have n4 := cell_of_row _ N 4 _ _ _ hnh
        simp [nd] at n0 n1 n2 n3 n4
        obtain ⟨mk, hmk⟩ : ∃ x, x = maxK L L.length := ⟨_, rfl⟩
        rw [← hmk] at HX n2
        clear hmk hnh hnv HNH
        go_wp2_with (refine wpList_store_row rfl 54 (.tmp 4) (.tmp 57) rfl (w.heap.size + 1) (nd t.grade (gndF g) mk (heiF g) L.length) rfl rfl 54 _ (unhid HR).res (nd_size _ _ _ _ _) rfl (nd_one _ _ _ _ _) ?_)
        (try simp only [Exit.inBlock, Exit.then])
        refine bodyPost_ret_by (v := .tuple #[.agg (nd t.grade (gndF g) mk (heiF g) L.length), .int .i64 0]) (results_cell_row_tmp Tryz.results22 _ _ (w.heap.size + 1) 54 (nd t.grade (gndF g) mk (heiF g) L.length) (0, 0) _ _ rfl rfl (setRow_heap _ _ _ _ _ _ (unhid HR).res) Tryz.underlying54 rfl (nd_size _ _ _ _ _)) rfl ?_
        exact ⟨by rw [unhid HX, ← unhid HER], below_setRow (unhid HR).below (by omega) _⟩

set_option maxHeartbeats 4000000 in
set_option maxRecDepth 100000 in
theorem rneed_calls (t : Ty) (width : Int) (w : World) (ht : t.text.length ≤ 1000000) :
    Calls Tryz.prog 23 #[.agg #[.int .i64 t.code, .int .i64 t.grade, .int .i64 t.frm, .int .i64 t.to, .string (SB t.text)], .int .i64 width] w fun e w' => e = .returned (.tuple #[.agg (needV t width), .int .i64 (strE t width)]) ∧ Below w.heap.size w w' := by
  have hb0 := below_alloc w (.cells #[.int .i64 t.code, .int .i64 t.grade, .int .i64 t.frm, .int .i64 t.to, .string (SB t.text)] 26)
  have hR0 := RB.new hb0 (nd 0 0 0 0 0) 54
  simp only [World.size_alloc] at hR0
  have HR := hid hR0
  have HT := hid ((TyAt.new w t).below (below_alloc _ (.cells (nd 0 0 0 0 0) 54)))
  have HTX := hid ht
  have HNO := hid (fun h => needV_no (t := t) (width := width) h)
  have HYES := hid (fun h => needV_yes (t := t) (width := width) h)
  have HTY := hid (fun h => strE_ty (t := t) (width := width) h)
  clear ht hb0 hR0
  go_enter Tryz.func23, Tryz.ntmps23
  go_upto_region 1 with (fail)
  change Code.wp _ _ _ _ ((w.alloc (.cells #[.int .i64 t.code, .int .i64 t.grade, .int .i64 t.frm, .int .i64 t.to, .string (SB t.text)] 26)).alloc (.cells (nd 0 0 0 0 0) 54))
  generalize (w.alloc (.cells #[.int .i64 t.code, .int .i64 t.grade, .int .i64 t.frm, .int .i64 t.to, .string (SB t.text)] 26)).alloc (.cells (nd 0 0 0 0 0) 54) = W at *
  obtain ⟨s0, s1, s2, s3, s4⟩ := (unhid HT).cells
  go_wp2_with fail
  refine (rstrips_calls t width W (unhid HTX)).mono ?_
  rintro e w1 ⟨hb, A, c, rfl, hr⟩
  have HR := hid ((unhid HR).after hb)
  have HT := hid ((unhid HT).below hb)

  have HRD := hid hr
  clear hb hr s0 s1 s2 s3 s4
  obtain ⟨er, her⟩ : ∃ x, x = strE t width := ⟨_, rfl⟩
  rw [← her] at HNO HYES HTY ⊢
  have HER := hid her
  clear her
  by_cases h0 : er = 0
  rotate_left
  · have d : (er != 0) = true := by simp [h0]
    have HX := hid ((unhid HNO) h0)
    clear h0 HNO HYES HTY
    go_wp2_with (refine wpList_store_row rfl 54 (.tmp 4) (.tmp 23) rfl (w.heap.size + 1) (nd 0 0 0 0 0) rfl rfl 54 _ (unhid HR).res (nd_size _ _ _ _ _) rfl (nd_one _ _ _ _ _) ?_)
    (try simp only [Exit.inBlock, Exit.then])
    refine bodyPost_ret_by (v := .tuple #[.agg (nd 0 0 0 0 0), .int .i64 er]) (results_cell_row_tmp Tryz.results23 _ _ (w.heap.size + 1) 54 (nd 0 0 0 0 0) (0, 0) _ _ rfl rfl (setRow_heap _ _ _ _ _ _ (unhid HR).res) Tryz.underlying54 rfl (nd_size _ _ _ _ _)) rfl ?_
    exact ⟨by rw [unhid HX, ← unhid HER], below_setRow (unhid HR).below (by omega) _⟩
  subst h0
  have htb := (unhid HTY) rfl
  have hf := tyB_fc htb
  have HX := hid ((unhid HYES) rfl)
  have hLn := strL_len (width := width) htb
  obtain ⟨L, hL⟩ : ∃ x, x = strL t width := ⟨_, rfl⟩
  rw [← hL] at HX HRD hLn ⊢
  clear hL HNO HYES
  have HC := hid (fun (g : Fc) (hfg : fcB g = true) (B1 B2 : Option Addr) (k1 k2 : Nat) (W : World) h => rground_calls g B1 B2 k1 k2 W hfg h)
  have HTB := hid htb
  clear htb HTY hf
  obtain ⟨s0, s1, s2, s3, s4⟩ := (unhid HT).cells
  go_wp2_with fail
  refine (picture_calls t w1 (unhid HTX)).mono ?_
  rintro e w2 ⟨hb, g, A1, c1, pw, ph, B1, B2, n1, k1, n2, k2, rfl, hi1, hyes⟩
  obtain ⟨hf, hgd, rfl, rfl, rfl, rfl, hrd⟩ := hyes (unhid HTB)
  have HR := hid ((unhid HR).after hb)
  have HT := hid ((unhid HT).below hb)
  have HRD := hid ((unhid HRD).below hb)
  have HI := hid hi1
  have HPD := hid hrd
  have HF := hid hf
  obtain ⟨z0, z1⟩ := size_bounds hf
  rw [← hgd] at HX
  clear hb hi1 hrd hyes hf hgd s0 s1 s2 s3 s4
  go_upto_region 5 with (fail)
  change Code.wp _ _ _ _ ((w2.alloc (.cells #[.int .i64 g.shape, .int .i64 g.size, .int .i64 g.height, .slice A1 g.items.length c1] 60)).alloc (.cells #[.int .i64 g.size, .int .i64 (heiF g), .slice B1 (numD g) k1, .slice B2 (numD g) k2] 62))
  have hb1 := below_alloc w2 (.cells #[.int .i64 g.shape, .int .i64 g.size, .int .i64 g.height, .slice A1 g.items.length c1] 60)
  have hb2 := below_alloc (w2.alloc (.cells #[.int .i64 g.shape, .int .i64 g.size, .int .i64 g.height, .slice A1 g.items.length c1] 60)) (.cells #[.int .i64 g.size, .int .i64 (heiF g), .slice B1 (numD g) k1, .slice B2 (numD g) k2] 62)
  have HR := hid (((unhid HR).after hb1).after hb2)
  have HT := hid (((unhid HT).below hb1).below hb2)
  have HRD := hid (((unhid HRD).below hb1).below hb2)
  have HE := hid ((FaceAt.new w2 c1 (unhid HI)).below hb2)
  have hPI := PicAt.new (w2.alloc (.cells #[.int .i64 g.shape, .int .i64 g.size, .int .i64 g.height, .slice A1 g.items.length c1] 60)) B2 k1 k2 ((unhid HPD).below hb1)
  rw [World.size_alloc] at hPI
  have HPI := hid hPI
  generalize (w2.alloc (.cells #[.int .i64 g.shape, .int .i64 g.size, .int .i64 g.height, .slice A1 g.items.length c1] 60)).alloc (.cells #[.int .i64 g.size, .int .i64 (heiF g), .slice B1 (numD g) k1, .slice B2 (numD g) k2] 62) = w3 at *
  generalize w2.heap.size = E at *
  clear hb1 hb2 hPI HI HPD
  obtain ⟨e0, e1, e2, e3⟩ := (unhid HE).cells
  go_wp2_with fail
  refine (rextent_calls g A1 c1 w3 (by omega) (by omega)).mono ?_
  rintro e w4 ⟨rfl, hb⟩
  have HR := hid ((unhid HR).after hb)
  have HT := hid ((unhid HT).below hb)
  have HRD := hid ((unhid HRD).below hb)
  have HPI := hid ((unhid HPI).below hb)
  clear hb e0 e1 e2 e3 HE
  go_wp2_with fail
  go_loopw [14, 13] (fun iv mv wr => ∃ k : Nat, k ≤ L.length ∧ iv = .int .i64 k ∧ mv = .int .i64 (maxK L k) ∧ wr = w4) (fun iv _ _ => L.length - (intOf iv).toNat)
  case atStart => exact ⟨0, Nat.zero_le _, rfl, rfl, rfl⟩
  case round =>
    obtain ⟨k, hk, rfl, rfl, rfl⟩ := hrel
    by_cases hlt : k < L.length
    · obtain ⟨b, off, rfl, hb, hc⟩ := (unhid HRD) (nums_ne hlt)
      have m0 := hc k _ (nums_at hlt)
      have hki : (k : Int) < (L.length : Int) := by omega
      have HM := hid (show maxK L (k + 1) = max (maxK L k) (L.getD k 0) from rfl)
      obtain ⟨x, hx⟩ : ∃ x, x = L.getD k 0 := ⟨_, rfl⟩
      rw [← hx] at m0 HM
      obtain ⟨mk, hmk⟩ : ∃ x, x = maxK L k := ⟨_, rfl⟩
      rw [← hmk] at HM ⊢
      clear hx hmk hb hc
      go_wp2_with fail
      go_roundw
      case rel => exact ⟨k + 1, by omega, by go_num, by rw [unhid HM], by first | rfl | trivial⟩
      case measure => simp [intOf]; omega
    · obtain rfl : k = L.length := by omega
      have hSF : ∀ w' : World, TyAt w' w.heap.size t → PicAt w' (E + 1) g B1 B2 k1 k2 → (w'.cell? ⟨w.heap.size, 1, none⟩ = some (.int .i64 t.grade) ∧ w'.cell? ⟨E + 1, 0, none⟩ = some (.int .i64 g.size) ∧ w'.cell? ⟨E + 1, 1, none⟩ = some (.int .i64 (heiF g)) ∧ w'.cell? ⟨E + 1, 2, none⟩ = some (.slice B1 (numD g) k1) ∧ w'.cell? ⟨E + 1, 3, none⟩ = some (.slice B2 (numD g) k2)) := fun w' h1 h2 => ⟨h1.cells.2.1, h2.cells.1, h2.cells.2.1, h2.cells.2.2.1, h2.cells.2.2.2⟩
      have HSF := hid hSF
      have hdb : Below wr.heap.size wr wr.drew := Below.drew (Below.refl _ _)
      have HR := hid ((unhid HR).after hdb)
      have HT := hid ((unhid HT).below hdb)
      have HPI := hid ((unhid HPI).below hdb)
      obtain ⟨mk, hmk⟩ : ∃ x, x = maxK L L.length := ⟨_, rfl⟩
      rw [← hmk] at HX ⊢
      clear hSF hdb hmk
      go_wp2_with fail
      refine wp_region_noPanic ?_
      refine wp_region_E (S := fun w' => w'.cell? ⟨w.heap.size, 1, none⟩ = some (.int .i64 t.grade) ∧ w'.cell? ⟨E + 1, 0, none⟩ = some (.int .i64 g.size) ∧ w'.cell? ⟨E + 1, 1, none⟩ = some (.int .i64 (heiF g)) ∧ w'.cell? ⟨E + 1, 2, none⟩ = some (.slice B1 (numD g) k1) ∧ w'.cell? ⟨E + 1, 3, none⟩ = some (.slice B2 (numD g) k2)) 9 11 rfl (by kernel_rfl) (by kernel_rfl) ((unhid HSF) _ (unhid HT) (unhid HPI)) ?_
      intro hSE
      generalize wr.drew = Wd at *
      (refine WE_take (i := 0) (v := ?_) rfl (by kernel_rfl) (by decide) (by kernel_rfl) (by kernel_rfl) (fun _ _ _ h => h) (by rfl) hSE ?_ ?_; rotate_left; (focus (intro w hSw; (try dsimp only at hSw); go_simp; (try with_reducible rfl))); simp only [Act.put, List.setIfInBounds_toArray, List.set_cons_zero, List.set_cons_succ])
      (refine WE_take (i := 1) (v := ?_) rfl (by kernel_rfl) (by decide) (by kernel_rfl) (by kernel_rfl) (fun _ _ _ h => h) (by rfl) hSE ?_ ?_; rotate_left; (focus (intro w hSw; (try dsimp only at hSw); go_simp; (try with_reducible rfl))); simp only [Act.put, List.setIfInBounds_toArray, List.set_cons_zero, List.set_cons_succ])
      (refine WE_take (i := 2) (v := ?_) rfl (by kernel_rfl) (by decide) (by kernel_rfl) (by kernel_rfl) (fun _ _ _ h => h) (by rfl) hSE ?_ ?_; rotate_left; (focus (intro w hSw; (try dsimp only at hSw); go_simp; (try with_reducible rfl))); simp only [Act.put, List.setIfInBounds_toArray, List.set_cons_zero, List.set_cons_succ])
      (refine WE_take (i := 4) (v := ?_) rfl (by kernel_rfl) (by decide) (by kernel_rfl) (by kernel_rfl) (fun _ _ _ h => h) (by rfl) hSE ?_ ?_; rotate_left; (focus (intro w hSw; (try dsimp only at hSw); go_simp; (try with_reducible rfl))); simp only [Act.put, List.setIfInBounds_toArray, List.set_cons_zero, List.set_cons_succ])
      (refine WE_take (i := 5) (v := ?_) rfl (by kernel_rfl) (by decide) (by kernel_rfl) (by kernel_rfl) (fun _ _ _ h => h) (by rfl) hSE ?_ ?_; rotate_left; (focus (intro w hSw; (try dsimp only at hSw); go_simp; (try with_reducible rfl))); simp only [Act.put, List.setIfInBounds_toArray, List.set_cons_zero, List.set_cons_succ])
      (refine WE_take (i := 6) (v := ?_) rfl (by kernel_rfl) (by decide) (by kernel_rfl) (by kernel_rfl) (fun _ _ _ h => h) (by rfl) hSE ?_ ?_; rotate_left; (focus (intro w hSw; (try dsimp only at hSw); go_simp; (try with_reducible rfl))); simp only [Act.put, List.setIfInBounds_toArray, List.set_cons_zero, List.set_cons_succ])
      (refine WE_take (i := 7) (v := ?_) rfl (by kernel_rfl) (by decide) (by kernel_rfl) (by kernel_rfl) (fun _ _ _ h => h) (by rfl) hSE ?_ ?_; rotate_left; (focus (intro w hSw; (try dsimp only at hSw); go_simp; (try with_reducible rfl))); simp only [Act.put, List.setIfInBounds_toArray, List.set_cons_zero, List.set_cons_succ])
      (refine WE_one (i := 3) rfl (by decide) (by kernel_rfl) ?_; intro K hK)
      go_simp
      go_at_call 38
      refine ((unhid HC) g (unhid HF) B1 B2 k1 k2 Wd (unhid HPI).rd).mono ?_
      rintro e w5 ⟨rfl, hb5⟩
      have HR := hid ((unhid HR).after hb5)
      have HT := hid ((unhid HT).below hb5)
      have HPI := hid ((unhid HPI).below hb5)
      refine hK.out _ _ ((unhid HSF) _ (unhid HT) (unhid HPI)) ?_
      clear hSE hK K hb5
      intro hSE
      (try simp only [Act.put, List.setIfInBounds_toArray, List.set_cons_zero, List.set_cons_succ])
      (refine WE_take (i := 8) (v := ?_) rfl (by kernel_rfl) (by decide) (by kernel_rfl) (by kernel_rfl) (fun _ _ _ h => h) (by rfl) hSE ?_ ?_; rotate_left; (focus (intro w hSw; (try dsimp only at hSw); go_simp; (try with_reducible rfl))); simp only [Act.put, List.setIfInBounds_toArray, List.set_cons_zero, List.set_cons_succ])
      refine WE_tail (by kernel_rfl) (by kernel_rfl) (by rfl) ?_
      simp only [List.drop_succ_cons, List.drop_zero]
      clear hSE
      go_wp2_with (refine wpList_store_row rfl 54 (.tmp 4) (.tmp 56) rfl (w.heap.size + 1) (nd t.grade (gndF g) mk (heiF g) L.length) rfl rfl 54 _ (unhid HR).res (nd_size _ _ _ _ _) rfl (nd_one _ _ _ _ _) ?_)
      refine NoPanic.normal ?_
      go_wp2_with fail
      refine bodyPost_ret_by (v := .tuple #[.agg (nd t.grade (gndF g) mk (heiF g) L.length), .int .i64 0]) (results_cell_row_tmp Tryz.results23 _ _ (w.heap.size + 1) 54 (nd t.grade (gndF g) mk (heiF g) L.length) (0, 0) _ _ rfl rfl (setRow_heap _ _ _ _ _ _ (unhid HR).res) Tryz.underlying54 rfl (nd_size _ _ _ _ _)) rfl ?_
      exact ⟨by rw [unhid HX, ← unhid HER], below_setRow (unhid HR).below (by omega) _⟩

end Go.Proofs.YtbnnnjkfhffekaaGreatDoor
