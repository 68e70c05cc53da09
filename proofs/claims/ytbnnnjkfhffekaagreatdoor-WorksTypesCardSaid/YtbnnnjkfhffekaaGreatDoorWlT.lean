/-
  The law WorksTypes.
-/
import Derived.Test.YtbnnnjkfhffekaaGreatDoorWoX
import Derived.Test.YtbnnnjkfhffekaaGreatDoorWoY
import Derived.Test.YtbnnnjkfhffekaaGreatDoorWoN
import Derived.Test.YtbnnnjkfhffekaaGreatDoorWaK
set_option linter.unusedSimpArgs false
set_option linter.unusedVariables false
namespace Go.Proofs.YtbnnnjkfhffekaaGreatDoor
open Go.RowKit

theorem strL_len2 (t : Ty) (width : Int) : (strL t width).length ≤ 1001 := by
  by_cases h : strE t width = 0
  · exact strL_len (strE_ty h)
  · rw [show strL t width = [] from if_neg h]
    simp
theorem needV_form (t : Ty) (width : Int) : ∃ a b c d e : Int, needV t width = nd a b c d e := by
  by_cases h : strE t width = 0
  · exact ⟨_, _, _, _, _, needV_yes h⟩
  · exact ⟨_, _, _, _, _, needV_no h⟩

set_option maxHeartbeats 4000000 in
set_option maxRecDepth 100000 in
theorem ltypes_calls (t : Ty) (width : Int) (w : World) (hg : Gl w) (ht : t.text.length ≤ 140737488355328) :
    Calls Tryz.prog 8 #[.agg #[.int .i64 t.code, .int .i64 t.grade, .int .i64 t.frm, .int .i64 t.to, .string (SB t.text)], .int .i64 width] w fun e w' => e = .returned (.bool true) ∧ Below w.heap.size w w' := by
  have zsb : (SB t.text).size = t.text.length := rfl
  have HO := hid ((On.start hg).lay (.cells #[.int .i64 t.code, .int .i64 t.grade, .int .i64 t.frm, .int .i64 t.to, .string (SB t.text)] 26))
  have HT := hid (TyAt.new w t)
  clear hg
  go_enter Tryz.func8, Tryz.ntmps8
  go_upto_region 1 with (fail)
  change Code.wp _ _ _ _ (w.alloc (.cells #[.int .i64 t.code, .int .i64 t.grade, .int .i64 t.frm, .int .i64 t.to, .string (SB t.text)] 26))
  generalize w.alloc (.cells #[.int .i64 t.code, .int .i64 t.grade, .int .i64 t.frm, .int .i64 t.to, .string (SB t.text)] 26) = W at *
  obtain ⟨s0, s1, s2, s3, s4⟩ := (unhid HT).cells
  by_cases l1 : 400 < t.text.length
  · have d1 : (400 : Int) < (t.text.length : Int) := by omega
    go_wp2_with fail
    refine (unhid HO).awake.mono ?_
    rintro e w9 ⟨rfl, hb2⟩
    have HB2 := hid hb2
    clear hb2
    go_wp2_with fail
    go_ret
    exact ⟨rfl, unhid HB2⟩
  have d1 : ¬ (400 : Int) < (t.text.length : Int) := by omega
  have HTX := hid (show t.text.length ≤ 1000000 by omega)
  have HS1 := hid (fun W h => wstrips_calls t width W h)
  have HS2 := hid (fun W => rstrips_calls t width W (unhid HTX))
  have HN1 := hid (fun W h => wneed_calls t width W h)
  have HN2 := hid (fun W => rneed_calls t width W (unhid HTX))
  have hln := strL_len2 t width
  obtain ⟨x1, x2, x3, x4, x5, hnv⟩ := needV_form t width
  rw [hnv] at HN1 HN2
  simp only [nd] at HN1 HN2
  clear hnv l1
  go_wp2_with fail
  refine ((unhid HS1) W (unhid HO).gl).mono ?_
  rintro e w1 ⟨hb, A, c, rfl, hr1⟩
  have HO := hid ((unhid HO).next hb)
  have HT := hid ((unhid HT).below hb)
  have HR1 := hid hr1
  clear hb hr1 s0 s1 s2 s3 s4 HS1
  obtain ⟨s0, s1, s2, s3, s4⟩ := (unhid HT).cells
  go_wp2_with fail
  refine ((unhid HS2) w1).mono ?_
  rintro e w2 ⟨hb, A2, c2, rfl, hr2⟩
  have HO := hid ((unhid HO).next hb)
  have HT := hid ((unhid HT).below hb)
  have HR1 := hid ((unhid HR1).below hb)
  have HR2 := hid hr2
  clear hb hr2 s0 s1 s2 s3 s4 HS2
  obtain ⟨L, hL⟩ : ∃ x, x = strL t width := ⟨_, rfl⟩
  rw [← hL] at HR1 HR2 hln ⊢
  obtain ⟨er, her⟩ : ∃ x, x = strE t width := ⟨_, rfl⟩
  rw [← her] at HN1 HN2 ⊢
  clear hL her
  obtain ⟨s0, s1, s2, s3, s4⟩ := (unhid HT).cells
  go_wp2_with fail
  refine ((unhid HN1) w2 (unhid HO).gl).mono ?_
  rintro e w3 ⟨rfl, hb⟩
  have HO := hid ((unhid HO).next hb)
  have HT := hid ((unhid HT).below hb)
  have HR1 := hid ((unhid HR1).below hb)
  have HR2 := hid ((unhid HR2).below hb)
  clear hb s0 s1 s2 s3 s4 HN1
  go_upto_region 6 with (fail)
  change Code.wp _ _ _ _ (w3.alloc (.cells #[.int .i64 x1, .int .i64 x2, .int .i64 x3, .int .i64 x4, .int .i64 x5] 54))
  have hb1 := below_alloc w3 (.cells #[.int .i64 x1, .int .i64 x2, .int .i64 x3, .int .i64 x4, .int .i64 x5] 54)
  have HO := hid ((unhid HO).next hb1)
  have HT := hid ((unhid HT).below hb1)
  have HR1 := hid ((unhid HR1).below hb1)
  have HR2 := hid ((unhid HR2).below hb1)
  have HM := hid (heap_alloc_new w3 (.cells #[.int .i64 x1, .int .i64 x2, .int .i64 x3, .int .i64 x4, .int .i64 x5] 54))
  generalize w3.alloc (.cells #[.int .i64 x1, .int .i64 x2, .int .i64 x3, .int .i64 x4, .int .i64 x5] 54) = w4 at *
  generalize w3.heap.size = M at *
  clear hb1
  obtain ⟨s0, s1, s2, s3, s4⟩ := (unhid HT).cells
  go_wp2_with fail
  refine ((unhid HN2) w4).mono ?_
  rintro e w5 ⟨rfl, hb⟩
  have HO := hid ((unhid HO).next hb)
  have HT := hid ((unhid HT).below hb)
  have HR1 := hid ((unhid HR1).below hb)
  have HR2 := hid ((unhid HR2).below hb)
  have HM := hid ((hb.block _ (Array.getElem?_eq_some_iff.1 (unhid HM)).1).trans (unhid HM))
  clear hb s0 s1 s2 s3 s4 HN2
  go_upto_region 7 with (fail)
  change Code.wp _ _ _ _ (w5.alloc (.cells #[.int .i64 x1, .int .i64 x2, .int .i64 x3, .int .i64 x4, .int .i64 x5] 54))
  have hb1 := below_alloc w5 (.cells #[.int .i64 x1, .int .i64 x2, .int .i64 x3, .int .i64 x4, .int .i64 x5] 54)
  have HO := hid ((unhid HO).next hb1)
  have HT := hid ((unhid HT).below hb1)
  have HR1 := hid ((unhid HR1).below hb1)
  have HR2 := hid ((unhid HR2).below hb1)
  have HM := hid ((hb1.block _ (Array.getElem?_eq_some_iff.1 (unhid HM)).1).trans (unhid HM))
  have HM2 := hid (heap_alloc_new w5 (.cells #[.int .i64 x1, .int .i64 x2, .int .i64 x3, .int .i64 x4, .int .i64 x5] 54))
  generalize w5.alloc (.cells #[.int .i64 x1, .int .i64 x2, .int .i64 x3, .int .i64 x4, .int .i64 x5] 54) = w6 at *
  generalize w5.heap.size = M2 at *
  clear hb1
  have th := (unhid HT).heap
  have tl := (unhid HT).lt
  have mh := unhid HM
  have ml := (Array.getElem?_eq_some_iff.1 (unhid HM)).1
  have nh := unhid HM2
  have nl := (Array.getElem?_eq_some_iff.1 (unhid HM2)).1
  have t0 := fun P : After w6 => After.cell (a := ⟨w.heap.size, 0, none⟩) tl (cell_of_row _ w.heap.size 0 _ _ _ th) P
  have t1 := fun P : After w6 => After.cell (a := ⟨w.heap.size, 1, none⟩) tl (cell_of_row _ w.heap.size 1 _ _ _ th) P
  have t2 := fun P : After w6 => After.cell (a := ⟨w.heap.size, 2, none⟩) tl (cell_of_row _ w.heap.size 2 _ _ _ th) P
  have t3 := fun P : After w6 => After.cell (a := ⟨w.heap.size, 3, none⟩) tl (cell_of_row _ w.heap.size 3 _ _ _ th) P
  have t4 := fun P : After w6 => After.cell (a := ⟨w.heap.size, 4, none⟩) tl (cell_of_row _ w.heap.size 4 _ _ _ th) P
  have m0 := fun P : After w6 => After.cell (a := ⟨M, 0, none⟩) ml (cell_of_row _ M 0 _ _ _ mh) P
  have m1 := fun P : After w6 => After.cell (a := ⟨M, 1, none⟩) ml (cell_of_row _ M 1 _ _ _ mh) P
  have m2 := fun P : After w6 => After.cell (a := ⟨M, 2, none⟩) ml (cell_of_row _ M 2 _ _ _ mh) P
  have m3 := fun P : After w6 => After.cell (a := ⟨M, 3, none⟩) ml (cell_of_row _ M 3 _ _ _ mh) P
  have m4 := fun P : After w6 => After.cell (a := ⟨M, 4, none⟩) ml (cell_of_row _ M 4 _ _ _ mh) P
  have n0 := fun P : After w6 => After.cell (a := ⟨M2, 0, none⟩) nl (cell_of_row _ M2 0 _ _ _ nh) P
  have n1 := fun P : After w6 => After.cell (a := ⟨M2, 1, none⟩) nl (cell_of_row _ M2 1 _ _ _ nh) P
  have n2 := fun P : After w6 => After.cell (a := ⟨M2, 2, none⟩) nl (cell_of_row _ M2 2 _ _ _ nh) P
  have n3 := fun P : After w6 => After.cell (a := ⟨M2, 3, none⟩) nl (cell_of_row _ M2 3 _ _ _ nh) P
  have n4 := fun P : After w6 => After.cell (a := ⟨M2, 4, none⟩) nl (cell_of_row _ M2 4 _ _ _ nh) P
  have HV1 := hid (fun P : After w6 => validType_calls t P.w ((unhid HO).gl.below P.below))
  have HV2 := hid (fun P : After w6 => rvalidType_calls t P.w (unhid HTX))
  have HSI := hid (fun P : After w6 => sameW_self L A A2 c c2 P.w ((unhid HR1).below P.below) ((unhid HR2).below P.below) (by omega))
  have HAW := hid (fun P : After w6 => awake_calls P.w ((unhid HO).gl.below P.below))
  obtain ⟨b, hbb⟩ : ∃ b, b = tyB t := ⟨_, rfl⟩
  rw [← hbb] at HV1 HV2
  have dbb : (b == b) = true := by simp
  have de : (er == er) = true := by simp
  simp at t0 t1 t2 t3 t4 m0 m1 m2 m3 m4 n0 n1 n2 n3 n4
  clear hbb th tl mh ml nh nl d1
  (refine wp_region_below (by kernel_rfl) (by kernel_rfl) ?_; (repeat (go_big_quiet_step (first | (go_at_call 24; exact Calls.after_of ((unhid HV1) _)) | (go_at_call 17; exact Calls.after_of ((unhid HV2) _)) | (go_at_call 16; exact Calls.after_of ((unhid HSI) _)) | (go_at_call 9; exact Calls.after_of ((unhid HAW) _))))); refine wpQuiet_nil ?_; intro wq hw'; obtain ⟨⟨wq2, hbq⟩, hw''⟩ := hw'; dsimp only at hw''; subst hw'')
  have HB2 := hid (((unhid HO).next hbq).bel)
  clear hbq
  go_wp2_with fail
  go_ret
  exact ⟨rfl, unhid HB2⟩

end Go.Proofs.YtbnnnjkfhffekaaGreatDoor
