/-
  Quote of package works; the examples of the chapter.
-/
import Derived.Test.YtfklckjfbnaoeaaGreatDoorWoV
import Derived.Test.YtfklckjfbnaoeaaGreatDoorWoR
import Derived.Test.YtfklckjfbnaoeaaGreatDoorWoW
set_option linter.unusedSimpArgs false
set_option linter.unusedVariables false
namespace Go.Proofs.YtfklckjfbnaoeaaGreatDoor
open Go.RowKit

theorem invE_one (p : Prc) (t : Ty) (n : Int) : invE p [t] [n] = quoE p t n := by simp [invE, quoE]
theorem one_tys (W : World) (t : Ty) (ht : t.text.length ≤ 140737488355328) : TysOk (W.alloc (.cells #[.int .i64 t.code, .int .i64 t.grade, .int .i64 t.frm, .int .i64 t.to, .string (SB t.text)] 67)) (some ⟨W.heap.size, 0, none⟩) [t] := by
  refine ⟨by simp, fun _ => ⟨W.heap.size, 0, rfl, by simp, fun j u hj => ?_⟩, by simpa using ht⟩
  rw [Nat.zero_add, cell_of_row _ _ _ _ _ _ (heap_alloc_new W (.cells #[.int .i64 t.code, .int .i64 t.grade, .int .i64 t.frm, .int .i64 t.to, .string (SB t.text)] 67))]
  rw [show [t].flatMap tyC = tyC t by simp] at hj
  simpa [tyC] using hj
theorem one_ints (W : World) (n : Int) : IntsOk (W.alloc (.cells #[.int .i64 n] 3)) (some ⟨W.heap.size, 0, none⟩) [n] := by
  refine ⟨by simp, fun _ => ⟨W.heap.size, 0, rfl, by simp, fun j u hj => ?_⟩⟩
  rw [Nat.zero_add, cell_of_row _ _ _ _ _ _ (heap_alloc_new W (.cells #[.int .i64 n] 3))]
  simpa [ints] using hj

set_option maxHeartbeats 2000000 in
set_option maxRecDepth 100000 in
theorem wquote_calls (p : Prc) (A : Option Addr) (c : Nat) (t : Ty) (n : Int) (w : World) (hg : Gl w) (hst : StpsOk w A p.steps) (ht : t.text.length ≤ 140737488355328) :
    Calls Tryz.prog 17 #[.agg #[.int .i64 p.dot, .int .i64 p.scr, .slice A p.steps.length c], .agg #[.int .i64 t.code, .int .i64 t.grade, .int .i64 t.frm, .int .i64 t.to, .string (SB t.text)], .int .i64 n] w fun e w' => e = .returned (quoR p t n) ∧ Below w.heap.size w w' := by
  have hb0 := below_alloc w (.cells #[.int .i64 p.dot, .int .i64 p.scr, .slice A p.steps.length c] 72)
  have HP := hid ((PrAt.new w c hst).below (below_alloc _ (.cells #[.int .i64 t.code, .int .i64 t.grade, .int .i64 t.frm, .int .i64 t.to, .string (SB t.text)] 67)))
  have hT := TyAt.new (w.alloc (.cells #[.int .i64 p.dot, .int .i64 p.scr, .slice A p.steps.length c] 72)) t
  rw [World.size_alloc] at hT
  have HT := hid hT
  have HB := hid (below_alloc' hb0 (.cells #[.int .i64 t.code, .int .i64 t.grade, .int .i64 t.frm, .int .i64 t.to, .string (SB t.text)] 67))
  have HG := hid (hg.below (below_alloc' hb0 (.cells #[.int .i64 t.code, .int .i64 t.grade, .int .i64 t.frm, .int .i64 t.to, .string (SB t.text)] 67)))
  clear hb0 hT hst hg
  go_enter Tryz.func17, Tryz.ntmps17
  go_upto_region 1 with (fail)
  change Code.wp _ _ _ _ ((w.alloc (.cells #[.int .i64 p.dot, .int .i64 p.scr, .slice A p.steps.length c] 72)).alloc (.cells #[.int .i64 t.code, .int .i64 t.grade, .int .i64 t.frm, .int .i64 t.to, .string (SB t.text)] 67))
  generalize (w.alloc (.cells #[.int .i64 p.dot, .int .i64 p.scr, .slice A p.steps.length c] 72)).alloc (.cells #[.int .i64 t.code, .int .i64 t.grade, .int .i64 t.frm, .int .i64 t.to, .string (SB t.text)] 67) = W at *
  obtain ⟨p0, p1, p2⟩ := (unhid HP).cells
  obtain ⟨s0, s1, s2, s3, s4⟩ := (unhid HT).cells
  have b1 := below_alloc W (.cells #[.int .i64 t.code, .int .i64 t.grade, .int .i64 t.frm, .int .i64 t.to, .string (SB t.text)] 67)
  have b2 := below_alloc (W.alloc (.cells #[.int .i64 t.code, .int .i64 t.grade, .int .i64 t.frm, .int .i64 t.to, .string (SB t.text)] 67)) (.cells #[.int .i64 n] 3)
  have hN := one_ints (W.alloc (.cells #[.int .i64 t.code, .int .i64 t.grade, .int .i64 t.frm, .int .i64 t.to, .string (SB t.text)] 67)) n
  rw [World.size_alloc] at hN
  have HIN := hid (winvoice_calls p A c [t] (some ⟨W.heap.size, 0, none⟩) 1 [n] (some ⟨W.heap.size + 1, 0, none⟩) 1 _ (((unhid HG).below b1).below b2) (((unhid HP).ok.below b1).below b2) ((one_tys W t ht).below b2) hN)
  have HBW := hid (((unhid HB).trans (b1.mono (unhid HB).size)).trans (b2.mono (Nat.le_trans (unhid HB).size b1.size)))
  clear b1 b2 hN HT HP HG HB
  go_wp2_with fail
  refine (unhid HIN).mono ?_
  rintro e w1 ⟨hb, h1, h2⟩
  rw [invE_one] at h1 h2
  have HB := hid ((unhid HBW).trans (hb.mono (unhid HBW).size))
  by_cases h0 : quoE p t n = 0
  · obtain ⟨B, k, rfl, hrd⟩ := h2 h0
    obtain ⟨b, off, rfl, -, hc⟩ := hrd (by simp [invL, ints])
    have c0 : w1.cell? ⟨b, off, none⟩ = some (.int .i64 (quoP p (facP t) n)) := hc 0 _ rfl
    have HR := hid (show quoR p t n = .tuple #[.int .i64 (quoP p (facP t) n), .int .i64 0] by unfold quoR; rw [h0]; rfl)
    obtain ⟨q, hq⟩ : ∃ x, x = quoP p (facP t) n := ⟨_, rfl⟩
    rw [← hq] at c0 HR
    clear h0 h1 h2 hrd hc hb hq HIN
    simp only [List.length_singleton]
    go_wp2_with fail
    go_ret2
    exact ⟨by rw [unhid HR]; rfl, unhid HB⟩
  · obtain rfl := h1 h0
    have HR := hid (show quoR p t n = .tuple #[.int .i64 0, .int .i64 (quoE p t n)] by unfold quoR; rw [if_neg h0])
    obtain ⟨er, her⟩ : ∃ x, x = quoE p t n := ⟨_, rfl⟩
    rw [← her] at HR h0 ⊢
    have hne : (er != 0) = true := by simp [h0]
    clear h0 h1 h2 hb her HIN
    go_wp2_with fail
    go_ret2
    exact ⟨by rw [unhid HR]; rfl, unhid HB⟩

/-! ### The examples -/
def txtA : List UInt8 := [112, 97, 110, 101, 108, 32, 49, 48, 32, 49, 48, 58, 32, 102, 105, 101, 108, 100, 32, 119, 104, 105, 116, 101, 59, 32, 98, 111, 120, 32, 98, 108, 97, 99, 107, 32, 49, 32, 49, 32, 97, 116, 32, 48, 32, 48]
def faceA : Fc := ⟨2, 10, 10, [⟨1, 1, 0, 0, 0, 0, []⟩, ⟨3, 8, 0, 0, 1, 1, []⟩]⟩
def tyA : Ty := ⟨1, 1, 0, 1, txtA⟩
def prA : Prc := ⟨3, 50, [⟨10, 100⟩]⟩
theorem parseA : parseP txtA = some faceA := parseP_some.2 ⟨by decide +kernel, by decide +kernel⟩
theorem faceE_A : faceE tyA = (faceA, true) := by
  unfold faceE
  rw [show tyA.text = txtA from rfl, parseA]
  show (faceA, decide (gndF faceA ≠ 0)) = _
  rw [show gndF faceA = 1 by decide +kernel]
  rfl
theorem quoR_A : quoR prA tyA 10 = .tuple #[.int .i64 3600, .int .i64 0] := by
  have h2 : tyB tyA = true := by unfold tyB; rw [faceE_A]; decide +kernel
  rw [quoR_4 (by decide +kernel) h2 (by omega)]
  have h3 : facP tyA = faceA := by unfold facP; rw [faceE_A]
  rw [h3, show quoP prA faceA 10 = 3600 by decide +kernel]
theorem warR_A : warR 1000 3000 2555 3650 = .tuple #[.int .i64 593, .int .i64 0] := by
  unfold warR
  rw [show warE 1000 3000 2555 3650 = 0 by decide +kernel, show warV 1000 3000 2555 3650 = 593 by decide +kernel]
  rfl
theorem one_steps (W : World) : StpsOk (W.alloc (.cells #[.int .i64 10, .int .i64 100] 69)) (some ⟨W.heap.size, 0, none⟩) prA.steps := by
  refine ⟨by decide, fun _ => ⟨W.heap.size, 0, rfl, by simp, fun j u hj => ?_⟩⟩
  rw [Nat.zero_add, cell_of_row _ _ _ _ _ _ (heap_alloc_new W (.cells #[.int .i64 10, .int .i64 100] 69))]
  simpa [prA, stC] using hj
theorem awake_start (w : World) (hg : Gl w) (o1 o3 : Obj) : Gl (((w.alloc o1).alloc (.cells #[.int .i64 10, .int .i64 100] 69)).alloc o3) ∧ StpsOk (((w.alloc o1).alloc (.cells #[.int .i64 10, .int .i64 100] 69)).alloc o3) (some ⟨w.heap.size + 1, 0, none⟩) prA.steps ∧ Below w.heap.size w (((w.alloc o1).alloc (.cells #[.int .i64 10, .int .i64 100] 69)).alloc o3) := by
  have hb := below_alloc' (below_alloc' (below_alloc w o1) (.cells #[.int .i64 10, .int .i64 100] 69)) o3
  have h := (one_steps (w.alloc o1)).below (below_alloc _ o3)
  rw [World.size_alloc] at h
  exact ⟨hg.below hb, h, hb⟩

set_option maxHeartbeats 2000000 in
set_option maxRecDepth 100000 in
theorem awake_calls (w : World) (hg : Gl w) : Calls Tryz.prog 5 #[] w fun e w' => e = .returned (.bool true) ∧ Below w.heap.size w w' := by
  have HG := hid hg
  have HQ := hid (fun (A : Option Addr) (c : Nat) (W : World) h1 h2 => wquote_calls prA A c tyA 10 W h1 h2 (by decide))
  have HST := hid (fun o1 o3 => awake_start w hg o1 o3)
  have HWA := hid (fun W => warranty_calls 1000 3000 2555 3650 W)
  rw [quoR_A] at HQ
  rw [warR_A] at HWA
  clear hg
  go_enter Tryz.func5, Tryz.ntmps5
  go_wp2_with fail
  refine ((unhid HQ) _ _ _ ((unhid HST) _ _).1 ((unhid HST) _ _).2.1).mono ?_
  rintro e w4 ⟨rfl, hb⟩
  have HB := hid (((unhid HST) _ _).2.2.trans (hb.mono ((unhid HST) _ _).2.2.size))
  clear hb
  go_wp2_with fail
  refine ((unhid HWA) w4).mono ?_
  rintro e w5 ⟨rfl, rfl⟩
  go_wp2_with fail
  go_ret
  exact ⟨rfl, unhid HB⟩

/-- The law's last word. -/
theorem On.awake {w0 w : World} (h : On w0 w) : Calls Tryz.prog 5 #[] w fun e w' => e = .returned (.bool true) ∧ Below w0.heap.size w0 w' :=
  (awake_calls w h.gl).mono fun _ _ ⟨he, hb⟩ => ⟨he, (h.next hb).bel⟩
theorem quoR_form (p : Prc) (t : Ty) (n : Int) : ∃ v e : Int, quoR p t n = .tuple #[.int .i64 v, .int .i64 e] := ⟨_, _, rfl⟩

end Go.Proofs.YtfklckjfbnaoeaaGreatDoor
