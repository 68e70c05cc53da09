/-
  The law WorksPrices.
-/
import Derived.Test.YtbnnnjkfhffekaaGreatDoorWoX
import Derived.Test.YtbnnnjkfhffekaaGreatDoorWaK
set_option linter.unusedSimpArgs false
set_option linter.unusedVariables false
namespace Go.Proofs.YtbnnnjkfhffekaaGreatDoor
open Go.RowKit

set_option maxHeartbeats 4000000 in
set_option maxRecDepth 100000 in
theorem lprices_calls (p : Prc) (A : Option Addr) (c : Nat) (t : Ty) (n : Int) (w : World) (hg : Gl w) (hst : StpsOk w A p.steps) (ht : t.text.length ≤ 140737488355328) :
    Calls Tryz.prog 3 #[.agg #[.int .i64 p.dot, .int .i64 p.scr, .slice A p.steps.length c], .agg #[.int .i64 t.code, .int .i64 t.grade, .int .i64 t.frm, .int .i64 t.to, .string (SB t.text)], .int .i64 n] w fun e w' => e = .returned (.bool true) ∧ Below w.heap.size w w' := by
  have zsb : (SB t.text).size = t.text.length := rfl
  have hsn := hst.n
  have HO := hid (((On.start hg).lay (.cells #[.int .i64 p.dot, .int .i64 p.scr, .slice A p.steps.length c] 24)).lay (.cells #[.int .i64 t.code, .int .i64 t.grade, .int .i64 t.frm, .int .i64 t.to, .string (SB t.text)] 26))
  have HP := hid ((PrAt.new w c hst).below (below_alloc _ (.cells #[.int .i64 t.code, .int .i64 t.grade, .int .i64 t.frm, .int .i64 t.to, .string (SB t.text)] 26)))
  have hT := TyAt.new (w.alloc (.cells #[.int .i64 p.dot, .int .i64 p.scr, .slice A p.steps.length c] 24)) t
  rw [World.size_alloc] at hT
  have HT := hid hT
  have HTX := hid ht
  clear hT hst hg
  go_enter Tryz.func3, Tryz.ntmps3
  go_upto_region 1 with (fail)
  change Code.wp _ _ _ _ ((w.alloc (.cells #[.int .i64 p.dot, .int .i64 p.scr, .slice A p.steps.length c] 24)).alloc (.cells #[.int .i64 t.code, .int .i64 t.grade, .int .i64 t.frm, .int .i64 t.to, .string (SB t.text)] 26))
  generalize (w.alloc (.cells #[.int .i64 p.dot, .int .i64 p.scr, .slice A p.steps.length c] 24)).alloc (.cells #[.int .i64 t.code, .int .i64 t.grade, .int .i64 t.frm, .int .i64 t.to, .string (SB t.text)] 26) = W at *
  obtain ⟨p0, p1, p2⟩ := (unhid HP).cells
  obtain ⟨s0, s1, s2, s3, s4⟩ := (unhid HT).cells
  by_cases l1 : 400 < t.text.length
  · have d1 : (400 : Int) < (t.text.length : Int) := by omega
    go_wp2_with fail
    refine (unhid HO).awake.mono ?_
    rintro e w9 ⟨rfl, hb2⟩
    have HB2 := hid hb2
    clear hb2
    go_wp2_with fail
    go_ret
    exact ⟨rfl, unhid HB2⟩
  have d1 : ¬ (400 : Int) < (t.text.length : Int) := by omega
  by_cases l2 : 30 < p.steps.length
  · have d2 : (30 : Int) < (p.steps.length : Int) := by omega
    go_wp2_with fail
    refine (unhid HO).awake.mono ?_
    rintro e w9 ⟨rfl, hb2⟩
    have HB2 := hid hb2
    clear hb2
    go_wp2_with fail
    go_ret
    exact ⟨rfl, unhid HB2⟩
  have d2 : ¬ (30 : Int) < (p.steps.length : Int) := by omega
  have HQ1 := hid (fun W h1 h2 => wquote_calls p A c t n W h1 h2 (unhid HTX))
  have HQ2 := hid (fun W h1 => rquote_calls p A c t n W h1 (by omega))
  obtain ⟨v, er, hq⟩ := quoR_form p t n
  rw [hq] at HQ1 HQ2
  clear hq l1 l2
  go_wp2_with fail
  refine ((unhid HQ1) W (unhid HO).gl (unhid HP).ok).mono ?_
  rintro e w1 ⟨rfl, hb⟩
  have HO := hid ((unhid HO).next hb)
  have HP := hid ((unhid HP).below hb)
  have HT := hid ((unhid HT).below hb)
  clear hb p0 p1 p2 s0 s1 s2 s3 s4 HQ1
  obtain ⟨p0, p1, p2⟩ := (unhid HP).cells
  obtain ⟨s0, s1, s2, s3, s4⟩ := (unhid HT).cells
  go_wp2_with fail
  refine ((unhid HQ2) w1 (unhid HP).ok).mono ?_
  rintro e w2 ⟨rfl, hb⟩
  have HO := hid ((unhid HO).next hb)
  have HP := hid ((unhid HP).below hb)
  clear hb p0 p1 p2 s0 s1 s2 s3 s4 HQ2 HT
  go_wp2_with fail
  have hPl := (unhid HP).lt
  obtain ⟨c0, c1, c2⟩ := (unhid HP).cells
  have q0 := fun P : After w2 => After.cell (a := ⟨w.heap.size, 0, none⟩) hPl c0 P
  have q1 := fun P : After w2 => After.cell (a := ⟨w.heap.size, 1, none⟩) hPl c1 P
  have q2 := fun P : After w2 => After.cell (a := ⟨w.heap.size, 2, none⟩) hPl c2 P
  have HV1 := hid (fun P : After w2 => validPrices_calls p A c P.w ((unhid HP).ok.below P.below))
  have HV2 := hid (fun P : After w2 => rvalidPrices_calls p A c P.w ((unhid HP).ok.below P.below))
  have HAW := hid (fun P : After w2 => awake_calls P.w ((unhid HO).gl.below P.below))
  obtain ⟨b, hbb⟩ : ∃ b, b = prcB p := ⟨_, rfl⟩
  rw [← hbb] at HV1 HV2
  have dbb : (b == b) = true := by simp
  have dv : (v == v) = true := by simp
  have de : (er == er) = true := by simp
  clear hbb c0 c1 c2 d1 d2
  (refine wp_region_below (by kernel_rfl) (by kernel_rfl) ?_; (repeat (go_big_quiet_step (first | (go_at_call 12; exact Calls.after_of ((unhid HV1) _)) | (go_at_call 13; exact Calls.after_of ((unhid HV2) _)) | (go_at_call 9; exact Calls.after_of ((unhid HAW) _))))); refine wpQuiet_nil ?_; intro wq hw'; obtain ⟨⟨wq2, hbq⟩, hw''⟩ := hw'; dsimp only at hw''; subst hw'')
  have HB2 := hid (((unhid HO).next hbq).bel)
  clear hbq
  go_wp2_with fail
  go_ret
  exact ⟨rfl, unhid HB2⟩

end Go.Proofs.YtbnnnjkfhffekaaGreatDoor
