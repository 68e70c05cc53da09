/-
  The picture of a type: the reference.
-/
import Derived.Test.YtbnnnjkfhffekaaGreatDoorWoC
set_option linter.unusedSimpArgs false
set_option linter.unusedVariables false
namespace Go.Proofs.YtbnnnjkfhffekaaGreatDoor
open Go.RowKit Go.Deep

theorem RB.row {w wr : World} {R R' : Nat} {vs us : Array Value} {ty : TypeId} (h : RB w wr R vs ty) (hR' : w.heap.size ≤ R') (hne : R ≠ R') : RB w (wr.setRow R' us) R vs ty := ⟨h.hR, (setRow_oth wr R' R us hne).trans h.res, below_setRow h.below hR' us⟩
theorem RB.set {w wr : World} {R : Nat} {vs : Array Value} {ty : TypeId} (h : RB w wr R vs ty) (us : Array Value) : RB w (wr.setRow R us) R us ty := ⟨h.hR, setRow_heap _ _ _ _ _ _ h.res, below_setRow h.below h.hR us⟩
/-- A short row with a slice in it holds no long list of numbers. -/
theorem nums_keep {w : World} {A : Option Addr} {l : List Int} {R : Nat} {vs : Array Value} {ty : TypeId} (h : Rd w A (ints l)) (hl : 4 ≤ l.length) (hr : w.heap[R]? = some (.cells vs ty (0, 0))) (hv : vs.size = 4) (h3 : ∃ a b c, vs[3]? = some (.slice a b c)) (us : Array Value) : Rd (w.setRow R us) A (ints l) := by
  intro hx
  obtain ⟨b, off, rfl, hb, hc⟩ := h hx
  have hbR : b ≠ R := by
    rintro rfl
    have c3 := hc 3 _ (nums_at (k := 3) (by omega))
    rw [cell_of_row _ b (off + 3) _ _ _ hr] at c3
    have := (Array.getElem?_eq_some_iff.1 c3).1
    obtain ⟨x, y, z, h3⟩ := h3
    rw [show off + 3 = 3 by omega, h3] at c3
    cases c3
  refine ⟨b, off, rfl, by simpa [World.setRow] using hb, fun j u hu => ?_⟩
  rw [World.cell?_of_block (w := w) (setRow_oth w R b us hbR)]
  exact hc j u hu
theorem dots_many {f : Fc} (hf : fcB f = true) : 4 ≤ (dotL f f.items.length).length := by
  obtain ⟨s0, s1⟩ := size_bounds hf
  obtain ⟨h0, h1⟩ := heiF_bounds hf
  rw [dotL_len]
  have : 4 * 1 ≤ f.size.toNat * (heiF f).toNat := Nat.mul_le_mul (by omega) (by omega)
  unfold numD
  omega
theorem pic_size (a b c d : Value) : (Tryz.prog.info? 62).map (·.size) = some (#[a, b, c, d] : Array Value).size := by
  show _ = some 4
  kernel_rfl
/-- What picture answers. -/
def picR (t : Ty) (w : World) (e : Ending) (w' : World) : Prop :=
  Below w.heap.size w w' ∧ ∃ (g : Fc) (A : Option Addr) (c : Nat) (pw ph : Int) (A1 A2 : Option Addr) (n1 k1 n2 k2 : Nat), e = .returned (.tuple #[.agg #[.int .i64 g.shape, .int .i64 g.size, .int .i64 g.height, .slice A g.items.length c], .agg #[.int .i64 pw, .int .i64 ph, .slice A1 n1 k1, .slice A2 n2 k2], .bool (tyB t)]) ∧ ItsOk w' A g.items ∧
    (tyB t = true → fcB g = true ∧ g = facP t ∧ pw = g.size ∧ ph = heiF g ∧ n1 = numD g ∧ n2 = numD g ∧ Rd w' A1 (ints (dotL g g.items.length)))
theorem picR_no {t : Ty} {w w' : World} (h : tyB t = false) (hb : Below w.heap.size w w') : picR t w (.returned (.tuple #[.agg (fi 0 0 0 (.slice none 0 0)), .agg #[.int .i64 0, .int .i64 0, .slice none 0 0, .slice none 0 0], .bool false])) w' :=
  ⟨hb, ⟨0, 0, 0, []⟩, none, 0, 0, 0, none, none, 0, 0, 0, 0, by rw [h]; rfl, ItsOk.nil _ _, fun e => by rw [h] at e; cases e⟩

set_option maxHeartbeats 4000000 in
set_option maxRecDepth 100000 in
theorem picture_calls (t : Ty) (w : World) (ht : t.text.length ≤ 1000000) :
    Calls Tryz.prog 25 #[.agg #[.int .i64 t.code, .int .i64 t.grade, .int .i64 t.frm, .int .i64 t.to, .string (SB t.text)]] w (picR t w) := by
  have hb0 := below_alloc w (.cells #[.int .i64 t.code, .int .i64 t.grade, .int .i64 t.frm, .int .i64 t.to, .string (SB t.text)] 26)
  have hR2 := (RB.new hb0 (fi 0 0 0 (.slice none 0 0)) 60).after (below_alloc _ (.cells #[.int .i64 0, .int .i64 0, .slice none 0 0, .slice none 0 0] 62))
  have hR3 := RB.new (below_alloc' hb0 (.cells (fi 0 0 0 (.slice none 0 0)) 60)) #[.int .i64 0, .int .i64 0, .slice none 0 0, .slice none 0 0] 62
  simp only [World.size_alloc] at hR2 hR3
  have HR2 := hid hR2
  have HR3 := hid hR3
  have HT := hid (((TyAt.new w t).below (below_alloc _ (.cells (fi 0 0 0 (.slice none 0 0)) 60))).below (below_alloc _ (.cells #[.int .i64 0, .int .i64 0, .slice none 0 0, .slice none 0 0] 62)))
  clear hb0 hR2 hR3
  go_enter Tryz.func25, Tryz.ntmps25
  go_upto_region 1 with (fail)
  change Code.wp _ _ _ _ (((w.alloc (.cells #[.int .i64 t.code, .int .i64 t.grade, .int .i64 t.frm, .int .i64 t.to, .string (SB t.text)] 26)).alloc (.cells (fi 0 0 0 (.slice none 0 0)) 60)).alloc (.cells #[.int .i64 0, .int .i64 0, .slice none 0 0, .slice none 0 0] 62))
  generalize ((w.alloc (.cells #[.int .i64 t.code, .int .i64 t.grade, .int .i64 t.frm, .int .i64 t.to, .string (SB t.text)] 26)).alloc (.cells (fi 0 0 0 (.slice none 0 0)) 60)).alloc (.cells #[.int .i64 0, .int .i64 0, .slice none 0 0, .slice none 0 0] 62) = W at *
  obtain ⟨s0, s1, s2, s3, s4⟩ := (unhid HT).cells
  go_wp2_with fail
  refine (rparse_calls t.text W ht).mono ?_
  rintro e w1 h
  obtain ⟨hb, A, c, rfl, hi⟩ := parR_ty h
  have HR2 := hid ((unhid HR2).after hb)
  have HR3 := hid ((unhid HR3).after hb)
  have HT := hid ((unhid HT).below hb)
  have HI := hid hi
  clear h hb hi s0 s1 s2 s3 s4
  have HNO := hid (fun h => errP_no (t := t) h)
  have HYES := hid (fun h => errP_yes (t := t) h)
  obtain ⟨er, her⟩ : ∃ x, x = errP t := ⟨_, rfl⟩
  rw [← her] at HNO HYES ⊢
  obtain ⟨g, hgd⟩ : ∃ x, x = facP t := ⟨_, rfl⟩
  rw [← hgd] at HNO HYES HI ⊢
  have HGD := hid hgd
  clear her hgd
  go_upto_region 2 with (fail)
  change Code.wp _ _ _ _ (w1.alloc (.cells #[.int .i64 g.shape, .int .i64 g.size, .int .i64 g.height, .slice A g.items.length c] 60))
  have hb1 := below_alloc w1 (.cells #[.int .i64 g.shape, .int .i64 g.size, .int .i64 g.height, .slice A g.items.length c] 60)
  have HER := hid (unhid HR3).lt
  have HR2 := hid ((unhid HR2).after hb1)
  have HR3 := hid ((unhid HR3).after hb1)
  have HT := hid ((unhid HT).below hb1)
  have HF := hid (FaceAt.new w1 c (unhid HI))
  generalize w1.alloc (.cells #[.int .i64 g.shape, .int .i64 g.size, .int .i64 g.height, .slice A g.items.length c] 60) = w2 at *
  generalize w1.heap.size = E at *
  clear hb1
  obtain ⟨s0, s1, s2, s3, s4⟩ := (unhid HT).cells
  by_cases h0 : er = 0
  rotate_left
  · obtain ⟨he4, -, hok⟩ := (unhid HNO) h0
    subst he4
    have HN := hid (show tyB t = false by unfold tyB; rw [hok]; simp)
    clear hok HNO HYES h0
    go_wp2_with (first | (go_at_call 26; refine (wfrom_calls _ _ _ _).mono ?_; rintro e w' ⟨rfl, rfl⟩) | refine wpList_store_row rfl 60 (.tmp 2) (.tmp 43) rfl (w.heap.size + 1) (fi 0 0 0 (.slice none 0 0)) rfl rfl 60 _ (unhid HR2).res (fi_size _ _ _ _) rfl (fi_one _ _ _ _ _ _) ?_ | refine wpList_store_row rfl 62 (.tmp 3) (.tmp 44) rfl (w.heap.size + 2) #[.int .i64 0, .int .i64 0, .slice none 0 0, .slice none 0 0] rfl rfl 62 _ ((unhid HR3).row (us := fi 0 0 0 (.slice none 0 0)) (by omega) (by omega : w.heap.size + 2 ≠ w.heap.size + 1)).res (pic_size _ _ _ _) rfl (by simp [Value.oneCell']) ?_)
    (try simp only [Exit.inBlock, Exit.then])
    have r2 := ((unhid HR2).set (fi 0 0 0 (.slice none 0 0))).row (us := #[.int .i64 0, .int .i64 0, .slice none 0 0, .slice none 0 0]) (R' := w.heap.size + 2) (by omega) (by omega)
    have r3 := ((unhid HR3).row (us := fi 0 0 0 (.slice none 0 0)) (by omega) (by omega : w.heap.size + 2 ≠ w.heap.size + 1)).set #[.int .i64 0, .int .i64 0, .slice none 0 0, .slice none 0 0]
    refine bodyPost_ret_by (v := .tuple #[.agg (fi 0 0 0 (.slice none 0 0)), .agg #[.int .i64 0, .int .i64 0, .slice none 0 0, .slice none 0 0], .bool false]) (results_cell2_tmp Tryz.results25 _ _ (w.heap.size + 1) (w.heap.size + 2) 60 62 (fi 0 0 0 (.slice none 0 0)) #[.int .i64 0, .int .i64 0, .slice none 0 0, .slice none 0 0] (0, 0) (0, 0) _ _ _ rfl rfl rfl r2.res r3.res Tryz.underlying60 rfl (fi_size _ _ _ _) Tryz.underlying62 rfl (pic_size _ _ _ _)) rfl ?_
    exact picR_no (unhid HN) r3.below
  subst h0
  by_cases c1 : 1 ≤ t.code ∧ t.code ≤ 1000000
  rotate_left
  · have HN := hid (tyB_no (t := t) (fun h => c1 h.1))
    have d1 : decide (1 ≤ t.code ∧ t.code ≤ 1000000) = false := decide_eq_false c1
    clear c1
    go_wp2_with (first | (go_at_call 26; refine (wfrom_calls _ _ _ _).mono ?_; rintro e w' ⟨rfl, rfl⟩) | refine wpList_store_row rfl 60 (.tmp 2) (.tmp 43) rfl (w.heap.size + 1) (fi 0 0 0 (.slice none 0 0)) rfl rfl 60 _ (unhid HR2).res (fi_size _ _ _ _) rfl (fi_one _ _ _ _ _ _) ?_ | refine wpList_store_row rfl 62 (.tmp 3) (.tmp 44) rfl (w.heap.size + 2) #[.int .i64 0, .int .i64 0, .slice none 0 0, .slice none 0 0] rfl rfl 62 _ ((unhid HR3).row (us := fi 0 0 0 (.slice none 0 0)) (by omega) (by omega : w.heap.size + 2 ≠ w.heap.size + 1)).res (pic_size _ _ _ _) rfl (by simp [Value.oneCell']) ?_)
    (try simp only [Exit.inBlock, Exit.then])
    have r2 := ((unhid HR2).set (fi 0 0 0 (.slice none 0 0))).row (us := #[.int .i64 0, .int .i64 0, .slice none 0 0, .slice none 0 0]) (R' := w.heap.size + 2) (by omega) (by omega)
    have r3 := ((unhid HR3).row (us := fi 0 0 0 (.slice none 0 0)) (by omega) (by omega : w.heap.size + 2 ≠ w.heap.size + 1)).set #[.int .i64 0, .int .i64 0, .slice none 0 0, .slice none 0 0]
    refine bodyPost_ret_by (v := .tuple #[.agg (fi 0 0 0 (.slice none 0 0)), .agg #[.int .i64 0, .int .i64 0, .slice none 0 0, .slice none 0 0], .bool false]) (results_cell2_tmp Tryz.results25 _ _ (w.heap.size + 1) (w.heap.size + 2) 60 62 (fi 0 0 0 (.slice none 0 0)) #[.int .i64 0, .int .i64 0, .slice none 0 0, .slice none 0 0] (0, 0) (0, 0) _ _ _ rfl rfl rfl r2.res r3.res Tryz.underlying60 rfl (fi_size _ _ _ _) Tryz.underlying62 rfl (pic_size _ _ _ _)) rfl ?_
    exact picR_no (unhid HN) r3.below
  have d1 : decide (1 ≤ t.code ∧ t.code ≤ 1000000) = true := decide_eq_true c1
  by_cases c2 : 1 ≤ t.grade ∧ t.grade ≤ 3
  rotate_left
  · have HN := hid (tyB_no (t := t) (fun h => c2 h.2.1))
    have d2 : decide (1 ≤ t.grade ∧ t.grade ≤ 3) = false := decide_eq_false c2
    clear c2
    go_wp2_with (first | (go_at_call 26; refine (wfrom_calls _ _ _ _).mono ?_; rintro e w' ⟨rfl, rfl⟩) | refine wpList_store_row rfl 60 (.tmp 2) (.tmp 43) rfl (w.heap.size + 1) (fi 0 0 0 (.slice none 0 0)) rfl rfl 60 _ (unhid HR2).res (fi_size _ _ _ _) rfl (fi_one _ _ _ _ _ _) ?_ | refine wpList_store_row rfl 62 (.tmp 3) (.tmp 44) rfl (w.heap.size + 2) #[.int .i64 0, .int .i64 0, .slice none 0 0, .slice none 0 0] rfl rfl 62 _ ((unhid HR3).row (us := fi 0 0 0 (.slice none 0 0)) (by omega) (by omega : w.heap.size + 2 ≠ w.heap.size + 1)).res (pic_size _ _ _ _) rfl (by simp [Value.oneCell']) ?_)
    (try simp only [Exit.inBlock, Exit.then])
    have r2 := ((unhid HR2).set (fi 0 0 0 (.slice none 0 0))).row (us := #[.int .i64 0, .int .i64 0, .slice none 0 0, .slice none 0 0]) (R' := w.heap.size + 2) (by omega) (by omega)
    have r3 := ((unhid HR3).row (us := fi 0 0 0 (.slice none 0 0)) (by omega) (by omega : w.heap.size + 2 ≠ w.heap.size + 1)).set #[.int .i64 0, .int .i64 0, .slice none 0 0, .slice none 0 0]
    refine bodyPost_ret_by (v := .tuple #[.agg (fi 0 0 0 (.slice none 0 0)), .agg #[.int .i64 0, .int .i64 0, .slice none 0 0, .slice none 0 0], .bool false]) (results_cell2_tmp Tryz.results25 _ _ (w.heap.size + 1) (w.heap.size + 2) 60 62 (fi 0 0 0 (.slice none 0 0)) #[.int .i64 0, .int .i64 0, .slice none 0 0, .slice none 0 0] (0, 0) (0, 0) _ _ _ rfl rfl rfl r2.res r3.res Tryz.underlying60 rfl (fi_size _ _ _ _) Tryz.underlying62 rfl (pic_size _ _ _ _)) rfl ?_
    exact picR_no (unhid HN) r3.below
  have d2 : decide (1 ≤ t.grade ∧ t.grade ≤ 3) = true := decide_eq_true c2
  by_cases c3 : 0 ≤ t.frm ∧ t.frm ≤ 100000
  rotate_left
  · have HN := hid (tyB_no (t := t) (fun h => c3 h.2.2.1))
    have d3 : decide (0 ≤ t.frm ∧ t.frm ≤ 100000) = false := decide_eq_false c3
    clear c3
    go_wp2_with (first | (go_at_call 26; refine (wfrom_calls _ _ _ _).mono ?_; rintro e w' ⟨rfl, rfl⟩) | refine wpList_store_row rfl 60 (.tmp 2) (.tmp 43) rfl (w.heap.size + 1) (fi 0 0 0 (.slice none 0 0)) rfl rfl 60 _ (unhid HR2).res (fi_size _ _ _ _) rfl (fi_one _ _ _ _ _ _) ?_ | refine wpList_store_row rfl 62 (.tmp 3) (.tmp 44) rfl (w.heap.size + 2) #[.int .i64 0, .int .i64 0, .slice none 0 0, .slice none 0 0] rfl rfl 62 _ ((unhid HR3).row (us := fi 0 0 0 (.slice none 0 0)) (by omega) (by omega : w.heap.size + 2 ≠ w.heap.size + 1)).res (pic_size _ _ _ _) rfl (by simp [Value.oneCell']) ?_)
    (try simp only [Exit.inBlock, Exit.then])
    have r2 := ((unhid HR2).set (fi 0 0 0 (.slice none 0 0))).row (us := #[.int .i64 0, .int .i64 0, .slice none 0 0, .slice none 0 0]) (R' := w.heap.size + 2) (by omega) (by omega)
    have r3 := ((unhid HR3).row (us := fi 0 0 0 (.slice none 0 0)) (by omega) (by omega : w.heap.size + 2 ≠ w.heap.size + 1)).set #[.int .i64 0, .int .i64 0, .slice none 0 0, .slice none 0 0]
    refine bodyPost_ret_by (v := .tuple #[.agg (fi 0 0 0 (.slice none 0 0)), .agg #[.int .i64 0, .int .i64 0, .slice none 0 0, .slice none 0 0], .bool false]) (results_cell2_tmp Tryz.results25 _ _ (w.heap.size + 1) (w.heap.size + 2) 60 62 (fi 0 0 0 (.slice none 0 0)) #[.int .i64 0, .int .i64 0, .slice none 0 0, .slice none 0 0] (0, 0) (0, 0) _ _ _ rfl rfl rfl r2.res r3.res Tryz.underlying60 rfl (fi_size _ _ _ _) Tryz.underlying62 rfl (pic_size _ _ _ _)) rfl ?_
    exact picR_no (unhid HN) r3.below
  have d3 : decide (0 ≤ t.frm ∧ t.frm ≤ 100000) = true := decide_eq_true c3
  have f0 := c3.1
  have f1 := c3.2
  by_cases c4 : t.frm + 1 ≤ t.to ∧ t.to ≤ 100001
  rotate_left
  · have HN := hid (tyB_no (t := t) (fun h => c4 h.2.2.2))
    have d4 : decide (t.frm + 1 ≤ t.to ∧ t.to ≤ 100001) = false := decide_eq_false c4
    go_wp2_with (first | (go_at_call 26; refine (wfrom_calls _ _ _ _).mono ?_; rintro e w' ⟨rfl, rfl⟩) | refine wpList_store_row rfl 60 (.tmp 2) (.tmp 43) rfl (w.heap.size + 1) (fi 0 0 0 (.slice none 0 0)) rfl rfl 60 _ (unhid HR2).res (fi_size _ _ _ _) rfl (fi_one _ _ _ _ _ _) ?_ | refine wpList_store_row rfl 62 (.tmp 3) (.tmp 44) rfl (w.heap.size + 2) #[.int .i64 0, .int .i64 0, .slice none 0 0, .slice none 0 0] rfl rfl 62 _ ((unhid HR3).row (us := fi 0 0 0 (.slice none 0 0)) (by omega) (by omega : w.heap.size + 2 ≠ w.heap.size + 1)).res (pic_size _ _ _ _) rfl (by simp [Value.oneCell']) ?_)
    (try simp only [Exit.inBlock, Exit.then])
    have r2 := ((unhid HR2).set (fi 0 0 0 (.slice none 0 0))).row (us := #[.int .i64 0, .int .i64 0, .slice none 0 0, .slice none 0 0]) (R' := w.heap.size + 2) (by omega) (by omega)
    have r3 := ((unhid HR3).row (us := fi 0 0 0 (.slice none 0 0)) (by omega) (by omega : w.heap.size + 2 ≠ w.heap.size + 1)).set #[.int .i64 0, .int .i64 0, .slice none 0 0, .slice none 0 0]
    refine bodyPost_ret_by (v := .tuple #[.agg (fi 0 0 0 (.slice none 0 0)), .agg #[.int .i64 0, .int .i64 0, .slice none 0 0, .slice none 0 0], .bool false]) (results_cell2_tmp Tryz.results25 _ _ (w.heap.size + 1) (w.heap.size + 2) 60 62 (fi 0 0 0 (.slice none 0 0)) #[.int .i64 0, .int .i64 0, .slice none 0 0, .slice none 0 0] (0, 0) (0, 0) _ _ _ rfl rfl rfl r2.res r3.res Tryz.underlying60 rfl (fi_size _ _ _ _) Tryz.underlying62 rfl (pic_size _ _ _ _)) rfl ?_
    exact picR_no (unhid HN) r3.below
  have d4 : decide (t.frm + 1 ≤ t.to ∧ t.to ≤ 100001) = true := decide_eq_true c4
  obtain ⟨hf, hok2⟩ := (unhid HYES) rfl
  have HTB := hid ((tyB_yes ⟨c1, c2, c3, c4⟩).trans hok2)
  have HFF := hid hf
  have HC := hid (fun W (B1 B2 : Option Addr) (n1 n2 : Nat) h => rground_calls g B1 B2 n1 n2 W hf h)
  have HPT := hid (fun W (h : ItsOk W A g.items) => paint_calls g A c W h hf)
  obtain ⟨d20, d21, d22, d23⟩ := (unhid HF).cells
  clear hf hok2 HNO HYES HI c1 c2 c3 c4
  go_wp2_with (go_at_call 26; refine (wfrom_calls _ _ _ _).mono ?_; rintro e w' ⟨rfl, rfl⟩)
  refine ((unhid HPT) w2 (unhid HF).ok).mono ?_
  rintro e w3 ⟨hb3, A1, A2, k1, k2, rfl, hrd, -⟩
  have HR2 := hid ((unhid HR2).after hb3)
  have HR3 := hid ((unhid HR3).after hb3)
  have HF := hid ((unhid HF).below hb3)
  have HRD := hid hrd
  clear hb3 hrd HPT s0 s1 s2 s3 s4 d20 d21 d22 d23 HT
  go_upto_region 5 with (fail)
  change Code.wp _ _ _ _ (w3.alloc (.cells #[.int .i64 g.size, .int .i64 (heiF g), .slice A1 (numD g) k1, .slice A2 (numD g) k2] 62))
  have hb1 := below_alloc w3 (.cells #[.int .i64 g.size, .int .i64 (heiF g), .slice A1 (numD g) k1, .slice A2 (numD g) k2] 62)
  have HPR := hid (unhid HR3).lt
  have HR2 := hid ((unhid HR2).after hb1)
  have HR3 := hid ((unhid HR3).after hb1)
  have HF := hid ((unhid HF).below hb1)
  have HP := hid (PicAt.new w3 A2 k1 k2 (unhid HRD))
  generalize w3.alloc (.cells #[.int .i64 g.size, .int .i64 (heiF g), .slice A1 (numD g) k1, .slice A2 (numD g) k2] 62) = w4 at *
  generalize w3.heap.size = PB at *
  clear hb1 HRD
  have hSF : ∀ w' : World, FaceAt w' E g A c → PicAt w' PB g A1 A2 k1 k2 → (w'.cell? ⟨E, 0, none⟩ = some (.int .i64 g.shape) ∧ w'.cell? ⟨E, 1, none⟩ = some (.int .i64 g.size) ∧ w'.cell? ⟨E, 2, none⟩ = some (.int .i64 g.height) ∧ w'.cell? ⟨E, 3, none⟩ = some (.slice A g.items.length c) ∧ w'.cell? ⟨PB, 0, none⟩ = some (.int .i64 g.size) ∧ w'.cell? ⟨PB, 1, none⟩ = some (.int .i64 (heiF g)) ∧ w'.cell? ⟨PB, 2, none⟩ = some (.slice A1 (numD g) k1) ∧ w'.cell? ⟨PB, 3, none⟩ = some (.slice A2 (numD g) k2)) := fun w' h1 h2 => ⟨h1.cells.1, h1.cells.2.1, h1.cells.2.2.1, h1.cells.2.2.2, h2.cells.1, h2.cells.2.1, h2.cells.2.2.1, h2.cells.2.2.2⟩
  have HSF := hid hSF
  have hdb : Below w4.heap.size w4 w4.drew := Below.drew (Below.refl _ _)
  have HFd := hid ((unhid HF).below hdb)
  have HPd := hid ((unhid HP).below hdb)
  have HR2 := hid ((unhid HR2).after hdb)
  have HR3 := hid ((unhid HR3).after hdb)
  clear hSF hdb HF HP
  go_wp2_with fail
  refine wp_region_noPanic ?_
  refine wp_region_E (S := fun w' => w'.cell? ⟨E, 0, none⟩ = some (.int .i64 g.shape) ∧ w'.cell? ⟨E, 1, none⟩ = some (.int .i64 g.size) ∧ w'.cell? ⟨E, 2, none⟩ = some (.int .i64 g.height) ∧ w'.cell? ⟨E, 3, none⟩ = some (.slice A g.items.length c) ∧ w'.cell? ⟨PB, 0, none⟩ = some (.int .i64 g.size) ∧ w'.cell? ⟨PB, 1, none⟩ = some (.int .i64 (heiF g)) ∧ w'.cell? ⟨PB, 2, none⟩ = some (.slice A1 (numD g) k1) ∧ w'.cell? ⟨PB, 3, none⟩ = some (.slice A2 (numD g) k2)) 7 8 rfl (by kernel_rfl) (by kernel_rfl) ((unhid HSF) _ (unhid HFd) (unhid HPd)) ?_
  intro hSE
  generalize w4.drew = Wd at *
  (refine WE_take (i := 0) (v := ?_) rfl (by kernel_rfl) (by decide) (by kernel_rfl) (by kernel_rfl) (fun _ _ _ h => h) (by rfl) hSE ?_ ?_; rotate_left; (focus (intro w hSw; (try dsimp only at hSw); go_simp; (try with_reducible rfl))); simp only [Act.put, List.setIfInBounds_toArray, List.set_cons_zero, List.set_cons_succ])
  (refine WE_take (i := 1) (v := ?_) rfl (by kernel_rfl) (by decide) (by kernel_rfl) (by kernel_rfl) (fun _ _ _ h => h) (by rfl) hSE ?_ ?_; rotate_left; (focus (intro w hSw; (try dsimp only at hSw); go_simp; (try with_reducible rfl))); simp only [Act.put, List.setIfInBounds_toArray, List.set_cons_zero, List.set_cons_succ])
  (refine WE_take (i := 2) (v := ?_) rfl (by kernel_rfl) (by decide) (by kernel_rfl) (by kernel_rfl) (fun _ _ _ h => h) (by rfl) hSE ?_ ?_; rotate_left; (focus (intro w hSw; (try dsimp only at hSw); go_simp; (try with_reducible rfl))); simp only [Act.put, List.setIfInBounds_toArray, List.set_cons_zero, List.set_cons_succ])
  (refine WE_one (i := 3) rfl (by decide) (by kernel_rfl) ?_; intro K hK)
  go_simp
  go_at_call 38
  refine ((unhid HC) Wd A1 A2 k1 k2 (unhid HPd).rd).mono ?_
  rintro e w5 ⟨rfl, hb5⟩
  have HF5 := hid ((unhid HFd).below hb5)
  have HP5 := hid ((unhid HPd).below hb5)
  have HR2 := hid ((unhid HR2).after hb5)
  have HR3 := hid ((unhid HR3).after hb5)
  refine hK.out _ _ ((unhid HSF) _ (unhid HF5) (unhid HP5)) ?_
  clear hSE hK K hb5
  intro hSE
  (try simp only [Act.put, List.setIfInBounds_toArray, List.set_cons_zero, List.set_cons_succ])
  (refine WE_take (i := 4) (v := ?_) rfl (by kernel_rfl) (by decide) (by kernel_rfl) (by kernel_rfl) (fun _ _ _ h => h) (by rfl) hSE ?_ ?_; rotate_left; (focus (intro w hSw; (try dsimp only at hSw); go_simp; (try with_reducible rfl))); simp only [Act.put, List.setIfInBounds_toArray, List.set_cons_zero, List.set_cons_succ])
  (refine WE_one (i := 5) rfl (by decide) (by kernel_rfl) ?_; intro K hK)
  rw [if_pos (by rfl)]
  refine wp_store_row 60 (.tmp 2) (.tmp 47) rfl (w.heap.size + 1) (fi g.shape g.size g.height (.slice A g.items.length c)) rfl rfl 60 _ (unhid HR2).res (fi_size _ _ _ _) rfl (fi_one _ _ _ _ _ _) ?_
  have HF6 := hid ((unhid HF5).row (by have := unhid HER; omega) (unhid HR2).res (by simp [fi]) (fi g.shape g.size g.height (.slice A g.items.length c)))
  have HP6 := hid (⟨(setRow_oth _ _ _ _ (by have := unhid HPR; omega)).trans (unhid HP5).heap, nums_keep (unhid HP5).rd (dots_many (unhid HFF)) (unhid HR2).res rfl ⟨_, _, _, rfl⟩ _⟩ : PicAt (w5.setRow (w.heap.size + 1) (fi g.shape g.size g.height (.slice A g.items.length c))) PB g A1 A2 k1 k2)
  have HR26 := hid ((unhid HR2).set (fi g.shape g.size g.height (.slice A g.items.length c)))
  have HR36 := hid ((unhid HR3).row (us := (fi g.shape g.size g.height (.slice A g.items.length c))) (by omega) (by omega : w.heap.size + 2 ≠ w.heap.size + 1))
  refine hK.out _ _ ((unhid HSF) _ (unhid HF6) (unhid HP6)) ?_
  clear hSE hK K HF5 HP5 HR2 HR3
  generalize w5.setRow (w.heap.size + 1) (fi g.shape g.size g.height (.slice A g.items.length c)) = w6 at *
  intro hSE
  (try simp only [Act.put, List.setIfInBounds_toArray, List.set_cons_zero, List.set_cons_succ])
  (refine WE_one (i := 6) rfl (by decide) (by kernel_rfl) ?_; intro K hK)
  rw [if_pos (by rfl)]
  refine wp_store_row 62 (.tmp 3) (.tmp 48) rfl (w.heap.size + 2) #[.int .i64 g.size, .int .i64 (heiF g), .slice A1 (numD g) k1, .slice A2 (numD g) k2] rfl rfl 62 _ (unhid HR36).res (pic_size _ _ _ _) rfl (by simp [Value.oneCell']) ?_
  have HF7 := hid ((unhid HF6).row (by have := unhid HER; omega) (unhid HR36).res (by simp) #[.int .i64 g.size, .int .i64 (heiF g), .slice A1 (numD g) k1, .slice A2 (numD g) k2])
  have HP7 := hid (⟨(setRow_oth _ _ _ _ (by have := unhid HPR; omega)).trans (unhid HP6).heap, nums_keep (unhid HP6).rd (dots_many (unhid HFF)) (unhid HR36).res rfl ⟨_, _, _, rfl⟩ _⟩ : PicAt (w6.setRow (w.heap.size + 2) #[.int .i64 g.size, .int .i64 (heiF g), .slice A1 (numD g) k1, .slice A2 (numD g) k2]) PB g A1 A2 k1 k2)
  have HR27 := hid ((unhid HR26).row (us := #[.int .i64 g.size, .int .i64 (heiF g), .slice A1 (numD g) k1, .slice A2 (numD g) k2]) (R' := w.heap.size + 2) (by omega) (by omega))
  have HR37 := hid ((unhid HR36).set #[.int .i64 g.size, .int .i64 (heiF g), .slice A1 (numD g) k1, .slice A2 (numD g) k2])
  refine hK.out _ _ ((unhid HSF) _ (unhid HF7) (unhid HP7)) ?_
  clear hSE hK K HF6 HP6 HR26 HR36
  generalize w6.setRow (w.heap.size + 2) #[.int .i64 g.size, .int .i64 (heiF g), .slice A1 (numD g) k1, .slice A2 (numD g) k2] = w7 at *
  intro hSE
  (try simp only [Act.put, List.setIfInBounds_toArray, List.set_cons_zero, List.set_cons_succ])
  (refine WE_last rfl (by kernel_rfl) (by kernel_rfl) (by kernel_rfl) ?_; intro K hK; go_simp; refine hK.out _ _ (NoPanic.normal ?_); clear hK K)
  go_wp2_with fail
  refine bodyPost_ret_by (v := .tuple #[.agg (fi g.shape g.size g.height (.slice A g.items.length c)), .agg #[.int .i64 g.size, .int .i64 (heiF g), .slice A1 (numD g) k1, .slice A2 (numD g) k2], .bool (gndF g != 0)]) (results_cell2_tmp Tryz.results25 _ _ (w.heap.size + 1) (w.heap.size + 2) 60 62 (fi g.shape g.size g.height (.slice A g.items.length c)) #[.int .i64 g.size, .int .i64 (heiF g), .slice A1 (numD g) k1, .slice A2 (numD g) k2] (0, 0) (0, 0) _ _ _ rfl rfl rfl (unhid HR27).res (unhid HR37).res Tryz.underlying60 rfl (fi_size _ _ _ _) Tryz.underlying62 rfl (pic_size _ _ _ _)) rfl ?_
  have e : (gndF g != 0) = tyB t := by rw [unhid HTB]; by_cases h : gndF g = 0 <;> simp [h]
  rw [e]
  exact ⟨(unhid HR37).below, g, A, c, g.size, heiF g, A1, A2, numD g, k1, numD g, k2, rfl, (unhid HF7).ok, fun _ => ⟨unhid HFF, unhid HGD, rfl, rfl, rfl, rfl, (unhid HP7).rd⟩⟩

set_option maxHeartbeats 1000000 in
set_option maxRecDepth 100000 in
theorem rvalidType_calls (t : Ty) (w : World) (ht : t.text.length ≤ 1000000) :
    Calls Tryz.prog 17 #[.agg #[.int .i64 t.code, .int .i64 t.grade, .int .i64 t.frm, .int .i64 t.to, .string (SB t.text)]] w fun e w' => e = .returned (.bool (tyB t)) ∧ Below w.heap.size w w' := by
  have hb0 := below_alloc w (.cells #[.int .i64 t.code, .int .i64 t.grade, .int .i64 t.frm, .int .i64 t.to, .string (SB t.text)] 26)
  have HT := hid (TyAt.new w t)
  have HB := hid hb0
  clear hb0
  go_enter Tryz.func17, Tryz.ntmps17
  go_upto_region 1 with (fail)
  change Code.wp _ _ _ _ (w.alloc (.cells #[.int .i64 t.code, .int .i64 t.grade, .int .i64 t.frm, .int .i64 t.to, .string (SB t.text)] 26))
  generalize w.alloc (.cells #[.int .i64 t.code, .int .i64 t.grade, .int .i64 t.frm, .int .i64 t.to, .string (SB t.text)] 26) = W at *
  obtain ⟨s0, s1, s2, s3, s4⟩ := (unhid HT).cells
  go_wp2_with fail
  refine (picture_calls t W ht).mono ?_
  rintro e w1 ⟨hb, g, A, c, pw, ph, A1, A2, n1, k1, n2, k2, rfl, -, -⟩
  have HB1 := hid ((unhid HB).trans (hb.mono (unhid HB).size))
  clear hb s0 s1 s2 s3 s4 HT
  go_wp2_with fail
  go_ret
  exact ⟨rfl, below_alloc' (below_alloc' (unhid HB1) _) _⟩

end Go.Proofs.YtbnnnjkfhffekaaGreatDoor
