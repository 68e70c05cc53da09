/-
  The face of a type, the colour of its sheet, and which types are valid: package works.
-/
import Derived.Test.YtfklckjfbnaoeaaGreatDoorWaL
import Derived.Test.YtfklckjfbnaoeaaGreatDoorWoE
import Derived.Test.YtfklckjfbnaoeaaGreatDoorWoI
import Derived.Test.YtfklckjfbnaoeaaGreatDoorWaS
set_option linter.unusedSimpArgs false
set_option linter.unusedVariables false
namespace Go.Proofs.YtfklckjfbnaoeaaGreatDoor
open Go.RowKit Go.Deep

set_option maxHeartbeats 1000000 in
set_option maxRecDepth 100000 in
theorem wcolour_calls (f : Fc) (A : Option Addr) (c : Nat) (w : World) (hit : ItsOk w A f.items) (hf : fcB f = true) :
    Calls Tryz.prog 172 #[.agg #[.int .i64 f.shape, .int .i64 f.size, .int .i64 f.height, .slice A f.items.length c]] w fun e w' => e = .returned (.int .i64 (gndF f)) ∧ Below w.heap.size w w' := by
  have HF := hid (FaceAt.new w c hit)
  have HB := hid (below_alloc w (.cells #[.int .i64 f.shape, .int .i64 f.size, .int .i64 f.height, .slice A f.items.length c] 214))
  have HSC := hid (fun W (h : ItsOk W A f.items) => pscreens_calls f A c W h hf)
  clear hit
  go_enter Tryz.func172, Tryz.ntmps172
  go_wp2_with fail
  generalize w.alloc (.cells #[.int .i64 f.shape, .int .i64 f.size, .int .i64 f.height, .slice A f.items.length c] 214) = W at *
  refine ((unhid HSC) W (unhid HF).ok).mono ?_
  rintro e w1 ⟨hb, A3, c3, rfl, hrd⟩
  have HB1 := hid ((unhid HB).trans (hb.mono (unhid HB).size))
  have HGL := hid (show gndF f = gndL (screensK f 8) from rfl)
  obtain ⟨l, hl⟩ : ∃ l, l = screensK f 8 := ⟨_, rfl⟩
  rw [← hl] at hrd HGL ⊢
  clear hl HSC HB hb
  cases l with
  | nil =>
    simp only [List.length_nil]
    go_wp2_with fail
    go_ret
    exact ⟨reti (by rw [unhid HGL]; simp [gndL]), unhid HB1⟩
  | cons x l =>
    obtain ⟨b, off, rfl, hbl, hc⟩ := hrd (by simp [ints])
    have c0 : w1.cell? ⟨b, off, none⟩ = some (.int .i64 x) := hc 0 _ rfl
    obtain ⟨n, hn⟩ : ∃ n, n = (x :: l).length := ⟨_, rfl⟩
    rw [← hn]
    have hn0 : 0 < n := by rw [hn]; simp
    have hn1 : (0 : Int) < (n : Int) := by omega
    have hn2 : ((n : Int) == 0) = false := by simp; omega
    clear hn hc
    by_cases hx : x = 8
    · have hx2 : (x == 8) = true := by simp [hx]
      have HX := hid hx
      clear hx
      go_wp2_with fail
      go_ret
      exact ⟨reti (by rw [unhid HGL]; simp [gndL, unhid HX]), unhid HB1⟩
    · have hx2 : (x == 8) = false := by simp [hx]
      have HX := hid hx
      clear hx
      go_wp2_with fail
      go_ret
      exact ⟨reti (by rw [unhid HGL]; simp [gndL, unhid HX]), unhid HB1⟩

/-- The number of the mistake of a type's text. -/
def errP (t : Ty) : Int := match parseP t.text with
  | none => 4
  | some _ => 0
theorem parR_ty {t : Ty} {w w' : World} {e : Ending} (h : parR t.text w e w') : Below w.heap.size w w' ∧ ∃ (A : Option Addr) (c : Nat), e = .returned (.tuple #[.agg #[.int .i64 (facP t).shape, .int .i64 (facP t).size, .int .i64 (facP t).height, .slice A (facP t).items.length c], .int .i64 (errP t)]) ∧ ItsOk w' A (facP t).items := by
  obtain ⟨hb, h⟩ := h
  refine ⟨hb, ?_⟩
  unfold facP faceE errP
  cases hp : parseP t.text with
  | none =>
    rw [hp] at h
    exact ⟨none, 0, h, ItsOk.nil _ _⟩
  | some f =>
    rw [hp] at h
    exact h
theorem errP_no {t : Ty} (h : errP t ≠ 0) : errP t = 4 ∧ facP t = ⟨0, 0, 0, []⟩ ∧ (faceE t).2 = false := by
  unfold errP facP faceE at *
  cases hp : parseP t.text with
  | none => exact ⟨rfl, rfl, rfl⟩
  | some f => rw [hp] at h; exact absurd rfl h
theorem errP_yes {t : Ty} (h : errP t = 0) : fcB (facP t) = true ∧ (faceE t).2 = decide (gndF (facP t) ≠ 0) := by
  unfold errP facP faceE at *
  cases hp : parseP t.text with
  | none => rw [hp] at h; cases h
  | some f => exact ⟨(parseP_some.1 hp).1, rfl⟩

/-- A type in a block. -/
structure TyAt (w : World) (B : Nat) (t : Ty) : Prop where
  heap : w.heap[B]? = some (.cells #[.int .i64 t.code, .int .i64 t.grade, .int .i64 t.frm, .int .i64 t.to, .string (SB t.text)] 67 (0, 0))
theorem TyAt.lt {w : World} {B : Nat} {t : Ty} (h : TyAt w B t) : B < w.heap.size := (Array.getElem?_eq_some_iff.1 h.heap).1
theorem TyAt.below {w w' : World} {B : Nat} {t : Ty} (h : TyAt w B t) (hb : Below w.heap.size w w') : TyAt w' B t := ⟨(hb.block B h.lt).trans h.heap⟩
theorem TyAt.new (w : World) (t : Ty) : TyAt (w.alloc (.cells #[.int .i64 t.code, .int .i64 t.grade, .int .i64 t.frm, .int .i64 t.to, .string (SB t.text)] 67)) w.heap.size t := ⟨heap_alloc_new _ _⟩
theorem TyAt.cells {w : World} {B : Nat} {t : Ty} (h : TyAt w B t) :
    w.cell? ⟨B, 0, none⟩ = some (.int .i64 t.code) ∧ w.cell? ⟨B, 1, none⟩ = some (.int .i64 t.grade) ∧ w.cell? ⟨B, 2, none⟩ = some (.int .i64 t.frm) ∧ w.cell? ⟨B, 3, none⟩ = some (.int .i64 t.to) ∧ w.cell? ⟨B, 4, none⟩ = some (.string (SB t.text)) :=
  ⟨cell_of_row _ B 0 _ _ _ h.heap, cell_of_row _ B 1 _ _ _ h.heap, cell_of_row _ B 2 _ _ _ h.heap, cell_of_row _ B 3 _ _ _ h.heap, cell_of_row _ B 4 _ _ _ h.heap⟩
/-- A result's block. -/
structure RB (w wr : World) (R : Nat) (vs : Array Value) (ty : TypeId) : Prop where
  hR : w.heap.size ≤ R
  res : wr.heap[R]? = some (.cells vs ty (0, 0))
  below : Below w.heap.size w wr
theorem RB.lt {w wr : World} {R : Nat} {vs : Array Value} {ty : TypeId} (h : RB w wr R vs ty) : R < wr.heap.size := (Array.getElem?_eq_some_iff.1 h.res).1
theorem RB.after {w wr w' : World} {R : Nat} {vs : Array Value} {ty : TypeId} (h : RB w wr R vs ty) (hb : Below wr.heap.size wr w') : RB w w' R vs ty := ⟨h.hR, (hb.block _ h.lt).trans h.res, h.below.trans (hb.mono h.below.size)⟩
theorem RB.new {w wr : World} (hb : Below w.heap.size w wr) (vs : Array Value) (ty : TypeId) : RB w (wr.alloc (.cells vs ty)) wr.heap.size vs ty := ⟨hb.size, heap_alloc_new _ _, below_alloc' hb _⟩

theorem setRow_oth (w : World) (g b : Nat) (us : Array Value) (h : b ≠ g) : (w.setRow g us).heap[b]? = w.heap[b]? := by
  simp [World.setRow, Array.getElem?_modify, Ne.symm h]
/-- A short row that is written holds no items. -/
theorem its_keep {w : World} {A : Option Addr} {l : List It} {R : Nat} {vs : Array Value} {ty : TypeId} (h : ItsOk w A l) (hr : w.heap[R]? = some (.cells vs ty (0, 0))) (hv : vs.size ≤ 6) (us : Array Value) : ItsOk (w.setRow R us) A l := by
  refine ⟨h.n, fun hx => ?_, h.txt⟩
  obtain ⟨b, off, rfl, hb, hc⟩ := h.rd hx
  have hbR : b ≠ R := by
    rintro rfl
    cases l with
    | nil => exact hx rfl
    | cons x l =>
      have h6 : w.cell? ⟨b, off + 6, none⟩ = some (.string (SB x.text)) := hc 6 _ rfl
      rw [cell_of_row _ b (off + 6) _ _ _ hr] at h6
      have := (Array.getElem?_eq_some_iff.1 h6).1
      omega
  refine ⟨b, off, rfl, by simpa [World.setRow] using hb, fun j u hu => ?_⟩
  rw [World.cell?_of_block (w := w) (setRow_oth w R b us hbR)]
  exact hc j u hu
theorem FaceAt.row {w : World} {E R : Nat} {f : Fc} {A : Option Addr} {c : Nat} {vs : Array Value} {ty : TypeId} (h : FaceAt w E f A c) (hE : E ≠ R) (hr : w.heap[R]? = some (.cells vs ty (0, 0))) (hv : vs.size ≤ 6) (us : Array Value) : FaceAt (w.setRow R us) E f A c :=
  ⟨(setRow_oth w R E us hE).trans h.heap, its_keep h.ok hr hv us⟩

set_option maxHeartbeats 2000000 in
set_option maxRecDepth 100000 in
theorem faceOf_calls (t : Ty) (w : World) (hg : Gl w) :
    Calls Tryz.prog 117 #[.agg #[.int .i64 t.code, .int .i64 t.grade, .int .i64 t.frm, .int .i64 t.to, .string (SB t.text)]] w fun e w' => Below w.heap.size w w' ∧ ∃ (A : Option Addr) (c : Nat), e = .returned (.tuple #[.agg #[.int .i64 (facP t).shape, .int .i64 (facP t).size, .int .i64 (facP t).height, .slice A (facP t).items.length c], .bool (faceE t).2]) ∧ ItsOk w' A (facP t).items := by
  have hb0 := below_alloc w (.cells #[.int .i64 t.code, .int .i64 t.grade, .int .i64 t.frm, .int .i64 t.to, .string (SB t.text)] 67)
  have hR0 := RB.new hb0 (fi 0 0 0 (.slice none 0 0)) 214
  simp only [World.size_alloc] at hR0
  have HR := hid hR0
  have HT := hid ((TyAt.new w t).below (below_alloc _ (.cells (fi 0 0 0 (.slice none 0 0)) 214)))
  have HG := hid (hg.below (unhid HR).below)
  clear hg hb0 hR0
  go_enter Tryz.func117, Tryz.ntmps117
  go_upto_region 1 with (fail)
  change Code.wp _ _ _ _ ((w.alloc (.cells #[.int .i64 t.code, .int .i64 t.grade, .int .i64 t.frm, .int .i64 t.to, .string (SB t.text)] 67)).alloc (.cells (fi 0 0 0 (.slice none 0 0)) 214))
  generalize (w.alloc (.cells #[.int .i64 t.code, .int .i64 t.grade, .int .i64 t.frm, .int .i64 t.to, .string (SB t.text)] 67)).alloc (.cells (fi 0 0 0 (.slice none 0 0)) 214) = W at *
  obtain ⟨s0, s1, s2, s3, s4⟩ := (unhid HT).cells
  go_wp2_with fail
  refine (parse_calls t.text W (unhid HG)).mono ?_
  rintro e w1 h
  obtain ⟨hb, A, c, rfl, hi⟩ := parR_ty h
  have HR1 := hid ((unhid HR).after hb)
  have HI := hid hi
  clear h hb hi s0 s1 s2 s3 s4 HT HG
  have HNO := hid (fun h => errP_no (t := t) h)
  have HYES := hid (fun h => errP_yes (t := t) h)
  obtain ⟨er, her⟩ : ∃ x, x = errP t := ⟨_, rfl⟩
  rw [← her] at HNO HYES ⊢
  obtain ⟨g, hgd⟩ : ∃ x, x = facP t := ⟨_, rfl⟩
  rw [← hgd] at HNO HYES HI ⊢
  obtain ⟨ok, hok⟩ : ∃ x, x = (faceE t).2 := ⟨_, rfl⟩
  rw [← hok] at HNO HYES
  have HGD := hid hgd
  have HOK := hid hok
  clear her hgd hok
  go_upto_region 2 with (fail)
  change Code.wp _ _ _ _ (w1.alloc (.cells #[.int .i64 g.shape, .int .i64 g.size, .int .i64 g.height, .slice A g.items.length c] 214))
  have HR := hid ((unhid HR1).after (below_alloc w1 (.cells #[.int .i64 g.shape, .int .i64 g.size, .int .i64 g.height, .slice A g.items.length c] 214)))
  have HF := hid (FaceAt.new w1 c (unhid HI))
  have HER := hid (unhid HR1).lt
  generalize w1.alloc (.cells #[.int .i64 g.shape, .int .i64 g.size, .int .i64 g.height, .slice A g.items.length c] 214) = w2 at *
  generalize w1.heap.size = E at *
  by_cases h0 : er = 0
  · subst h0
    obtain ⟨hf, hok2⟩ := (unhid HYES) rfl
    have HOK2 := hid (hok2.symm.trans (unhid HOK))
    clear hok2
    have HC := hid (fun W (h : ItsOk W A g.items) => wcolour_calls g A c W h hf)
    clear hf HNO HYES HI
    have hSF : ∀ w' : World, FaceAt w' E g A c → (w'.cell? ⟨E, 0, none⟩ = some (.int .i64 g.shape) ∧ w'.cell? ⟨E, 1, none⟩ = some (.int .i64 g.size) ∧ w'.cell? ⟨E, 2, none⟩ = some (.int .i64 g.height) ∧ w'.cell? ⟨E, 3, none⟩ = some (.slice A g.items.length c)) := fun w' h => h.cells
    have HSF := hid hSF
    have hdb : Below w2.heap.size w2 w2.drew := Below.drew (Below.refl _ _)
    have HFd := hid ((unhid HF).below hdb)
    have HRd := hid ((unhid HR).after hdb)
    clear hSF hdb
    go_wp2_with fail
    refine wp_region_noPanic ?_
    refine wp_region_E (S := fun w' => w'.cell? ⟨E, 0, none⟩ = some (.int .i64 g.shape) ∧ w'.cell? ⟨E, 1, none⟩ = some (.int .i64 g.size) ∧ w'.cell? ⟨E, 2, none⟩ = some (.int .i64 g.height) ∧ w'.cell? ⟨E, 3, none⟩ = some (.slice A g.items.length c)) 5 6 rfl (by kernel_rfl) (by kernel_rfl) ((unhid HSF) _ (unhid HFd)) ?_
    intro hSE
    generalize w2.drew = Wd at *
    (refine WE_take (i := 0) (v := ?_) rfl (by kernel_rfl) (by decide) (by kernel_rfl) (by kernel_rfl) (fun _ _ _ h => h) (by rfl) hSE ?_ ?_; rotate_left; (focus (intro w hSw; (try dsimp only at hSw); go_simp; (try with_reducible rfl))); simp only [Act.put, List.setIfInBounds_toArray, List.set_cons_zero, List.set_cons_succ])
    (refine WE_take (i := 1) (v := ?_) rfl (by kernel_rfl) (by decide) (by kernel_rfl) (by kernel_rfl) (fun _ _ _ h => h) (by rfl) hSE ?_ ?_; rotate_left; (focus (intro w hSw; (try dsimp only at hSw); go_simp; (try with_reducible rfl))); simp only [Act.put, List.setIfInBounds_toArray, List.set_cons_zero, List.set_cons_succ])
    (refine WE_one (i := 2) rfl (by decide) (by kernel_rfl) ?_; intro K hK)
    go_simp
    go_at_call 172
    refine ((unhid HC) Wd (unhid HFd).ok).mono ?_
    rintro e w3 ⟨rfl, hb3⟩
    have HF3 := hid ((unhid HFd).below hb3)
    have HR3 := hid ((unhid HRd).after hb3)
    refine hK.out _ _ ((unhid HSF) _ (unhid HF3)) ?_
    clear hSE hK K hb3
    intro hSE
    (try simp only [Act.put, List.setIfInBounds_toArray, List.set_cons_zero, List.set_cons_succ])
    (refine WE_take (i := 3) (v := ?_) rfl (by kernel_rfl) (by decide) (by kernel_rfl) (by kernel_rfl) (fun _ _ _ h => h) (by rfl) hSE ?_ ?_; rotate_left; (focus (intro w hSw; (try dsimp only at hSw); go_simp; (try with_reducible rfl))); simp only [Act.put, List.setIfInBounds_toArray, List.set_cons_zero, List.set_cons_succ])
    (refine WE_one (i := 4) rfl (by decide) (by kernel_rfl) ?_; intro K hK)
    rw [if_pos (by rfl)]
    refine wp_store_row 214 (.tmp 2) (.tmp 15) rfl (w.heap.size + 1) (fi g.shape g.size g.height (.slice A g.items.length c)) rfl rfl 214 _ (unhid HR3).res (fi_size _ _ _ _) rfl (fi_one _ _ _ _ _ _) ?_
    have hF4 := (unhid HF3).row (by have := unhid HER; omega) (unhid HR3).res (by simp [fi]) (fi g.shape g.size g.height (.slice A g.items.length c))
    have HI4 := hid hF4.ok
    refine hK.out _ _ ((unhid HSF) _ hF4) ?_
    clear hSE hK K hF4
    intro hSE
    (try simp only [Act.put, List.setIfInBounds_toArray, List.set_cons_zero, List.set_cons_succ])
    (refine WE_last rfl (by kernel_rfl) (by kernel_rfl) (by kernel_rfl) ?_; intro K hK; go_simp; refine hK.out _ _ (NoPanic.normal ?_); clear hK K)
    go_wp2_with fail
    refine bodyPost_ret_by (v := .tuple #[.agg (fi g.shape g.size g.height (.slice A g.items.length c)), .bool (gndF g != 0)]) (results_cell_row_tmp Tryz.results117 _ _ (w.heap.size + 1) 214 (fi g.shape g.size g.height (.slice A g.items.length c)) (0, 0) _ _ rfl rfl (setRow_heap _ _ _ _ _ _ (unhid HR3).res) Tryz.underlying214 rfl (fi_size _ _ _ _)) rfl ?_
    have e : (gndF g != 0) = (faceE t).2 := by rw [← unhid HOK2]; by_cases h : gndF g = 0 <;> simp [h]
    rw [e, ← unhid HGD]
    exact ⟨below_setRow (unhid HR3).below (by omega) _, A, c, rfl, unhid HI4⟩
  · obtain ⟨he4, hg0, hok⟩ := (unhid HNO) h0
    subst he4
    have HGZ := hid ((unhid HGD).symm.trans hg0)
    have HOZ := hid ((unhid HOK).symm.trans hok)
    clear hg0 hok
    clear HNO HYES h0
    go_wp2_with (refine wpList_store_row rfl 214 (.tmp 2) (.tmp 14) rfl (w.heap.size + 1) (fi 0 0 0 (.slice none 0 0)) rfl rfl 214 _ (unhid HR).res (fi_size _ _ _ _) rfl (fi_one _ _ _ _ _ _) ?_)
    (try simp only [Exit.inBlock, Exit.then])
    refine bodyPost_ret_by (v := .tuple #[.agg (fi 0 0 0 (.slice none 0 0)), .bool false]) (results_cell_row_tmp Tryz.results117 _ _ (w.heap.size + 1) 214 (fi 0 0 0 (.slice none 0 0)) (0, 0) _ _ rfl rfl (setRow_heap _ _ _ _ _ _ (unhid HR).res) Tryz.underlying214 rfl (fi_size _ _ _ _)) rfl ?_
    rw [unhid HGZ, unhid HOZ]
    exact ⟨below_setRow (unhid HR).below (by omega) _, none, 0, rfl, ItsOk.nil _ _⟩

end Go.Proofs.YtfklckjfbnaoeaaGreatDoor
