/-
  The price of a line: the reference.
-/
import Derived.Test.YtbnnnjkfhffekaaGreatDoorWoG
import Derived.Test.YtbnnnjkfhffekaaGreatDoorWoQ
set_option linter.unusedSimpArgs false
set_option linter.unusedVariables false
namespace Go.Proofs.YtbnnnjkfhffekaaGreatDoor
open Go.RowKit Go.Deep

/-- The number of the mistake of a line. -/
def quoE (p : Prc) (t : Ty) (n : Int) : Int := if prcB p = true then if tyB t = true then if 1 ≤ n ∧ n ≤ 10000 then 0 else 2 else 101 else 103
def quoR (p : Prc) (t : Ty) (n : Int) : Value := .tuple #[.int .i64 (if quoE p t n = 0 then quoP p (facP t) n else 0), .int .i64 (quoE p t n)]
theorem quoR_1 {p : Prc} {t : Ty} {n : Int} (h : prcB p = false) : quoR p t n = .tuple #[.int .i64 0, .int .i64 103] := by
  have e : quoE p t n = 103 := if_neg (by simp [h])
  unfold quoR
  rw [e]
  rfl
theorem quoR_2 {p : Prc} {t : Ty} {n : Int} (h : prcB p = true) (h2 : tyB t = false) : quoR p t n = .tuple #[.int .i64 0, .int .i64 101] := by
  have e : quoE p t n = 101 := (if_pos h).trans (if_neg (by simp [h2]))
  unfold quoR
  rw [e]
  rfl
theorem quoR_3 {p : Prc} {t : Ty} {n : Int} (h : prcB p = true) (h2 : tyB t = true) (h3 : ¬ (1 ≤ n ∧ n ≤ 10000)) : quoR p t n = .tuple #[.int .i64 0, .int .i64 2] := by
  have e : quoE p t n = 2 := ((if_pos h).trans (if_pos h2)).trans (if_neg h3)
  unfold quoR
  rw [e]
  rfl
theorem quoR_4 {p : Prc} {t : Ty} {n : Int} (h : prcB p = true) (h2 : tyB t = true) (h3 : 1 ≤ n ∧ n ≤ 10000) : quoR p t n = .tuple #[.int .i64 (quoP p (facP t) n), .int .i64 0] := by
  have e : quoE p t n = 0 := ((if_pos h).trans (if_pos h2)).trans (if_pos h3)
  unfold quoR
  rw [e]
  rfl
theorem mul_in3 {a b A B : Int} (h1 : 0 ≤ a) (h2 : a ≤ A) (h3 : 0 ≤ b) (h4 : b ≤ B) : 0 ≤ a * b ∧ a * b ≤ A * B :=
  ⟨Int.mul_nonneg h1 h3, Int.mul_le_mul h2 h4 h3 (by omega)⟩
theorem wraps_quote {n d s ov res one pd ps : Int} (h1 : d * pd + s * ps = one) (h2 : 0 ≤ d * pd ∧ d * pd ≤ 360000000000) (h3 : 0 ≤ s * ps ∧ s * ps ≤ 8000000) (h4 : 0 ≤ n * one ∧ n * one ≤ 3600080000000000) (h5 : 0 ≤ n * one * (1000 - ov) ∧ n * one * (1000 - ov) ≤ 3600080000000000000) (h6 : 0 ≤ ov ∧ ov ≤ 1000) (h7 : n * one * (1000 - ov) / 1000 = res) :
    IntKind.i64.wrap ((IntKind.i64.wrap (IntKind.i64.wrap (n * IntKind.i64.wrap (IntKind.i64.wrap (pd * d) + IntKind.i64.wrap (ps * s))) * IntKind.i64.wrap (1000 - ov))).tdiv 1000) = res := by
  rw [Int.mul_comm pd d, Int.mul_comm ps s, IntWalk.i64_in (d * pd) (by omega), IntWalk.i64_in (s * ps) (by omega), IntWalk.i64_in (d * pd + s * ps) (by omega), h1, IntWalk.i64_in (n * one) (by omega), IntWalk.i64_in (1000 - ov) (by omega), IntWalk.i64_in (n * one * (1000 - ov)) (by omega), Int.tdiv_eq_ediv_of_nonneg h5.1, h7]
  exact IntWalk.i64_in _ (by omega)
theorem areas_lit (g : Fc) : (ints (areasL g)).toArray = #[.int .i64 (areaP g 0), .int .i64 (areaP g 1), .int .i64 (areaP g 2), .int .i64 (areaP g 3), .int .i64 (areaP g 4), .int .i64 (areaP g 5), .int .i64 (areaP g 6), .int .i64 (areaP g 7), .int .i64 (areaP g 8), .int .i64 (areaP g 9)] := by
  simp [areasL, ints, List.range_succ]

set_option maxHeartbeats 4000000 in
set_option maxRecDepth 100000 in
theorem rquote_calls (p : Prc) (A : Option Addr) (c : Nat) (t : Ty) (n : Int) (w : World) (hst : StpsOk w A p.steps) (ht : t.text.length ≤ 1000000) :
    Calls Tryz.prog 11 #[.agg #[.int .i64 p.dot, .int .i64 p.scr, .slice A p.steps.length c], .agg #[.int .i64 t.code, .int .i64 t.grade, .int .i64 t.frm, .int .i64 t.to, .string (SB t.text)], .int .i64 n] w fun e w' => e = .returned (quoR p t n) ∧ Below w.heap.size w w' := by
  have hb0 := below_alloc w (.cells #[.int .i64 p.dot, .int .i64 p.scr, .slice A p.steps.length c] 24)
  have HP := hid ((PrAt.new w c hst).below (below_alloc _ (.cells #[.int .i64 t.code, .int .i64 t.grade, .int .i64 t.frm, .int .i64 t.to, .string (SB t.text)] 26)))
  have hT := TyAt.new (w.alloc (.cells #[.int .i64 p.dot, .int .i64 p.scr, .slice A p.steps.length c] 24)) t
  rw [World.size_alloc] at hT
  have HT := hid hT
  have HB := hid (below_alloc' hb0 (.cells #[.int .i64 t.code, .int .i64 t.grade, .int .i64 t.frm, .int .i64 t.to, .string (SB t.text)] 26))
  clear hb0 hT hst
  have HR1 := hid (fun h => quoR_1 (p := p) (t := t) (n := n) h)
  have HR2 := hid (fun h h2 => quoR_2 (p := p) (t := t) (n := n) h h2)
  have HR3 := hid (fun h h2 h3 => quoR_3 (p := p) (t := t) (n := n) h h2 h3)
  have HR4 := hid (fun h h2 h3 => quoR_4 (p := p) (t := t) (n := n) h h2 h3)
  obtain ⟨R, hR⟩ : ∃ R, R = quoR p t n := ⟨_, rfl⟩
  rw [← hR] at HR1 HR2 HR3 HR4 ⊢
  clear hR
  go_enter Tryz.func11, Tryz.ntmps11
  go_upto_region 1 with (fail)
  change Code.wp _ _ _ _ ((w.alloc (.cells #[.int .i64 p.dot, .int .i64 p.scr, .slice A p.steps.length c] 24)).alloc (.cells #[.int .i64 t.code, .int .i64 t.grade, .int .i64 t.frm, .int .i64 t.to, .string (SB t.text)] 26))
  generalize (w.alloc (.cells #[.int .i64 p.dot, .int .i64 p.scr, .slice A p.steps.length c] 24)).alloc (.cells #[.int .i64 t.code, .int .i64 t.grade, .int .i64 t.frm, .int .i64 t.to, .string (SB t.text)] 26) = W at *
  obtain ⟨p0, p1, p2⟩ := (unhid HP).cells
  go_wp2_with fail
  refine (rvalidPrices_calls p A c W (unhid HP).ok).mono ?_
  rintro e w1 ⟨rfl, hb⟩
  have HP := hid ((unhid HP).below hb)
  have HT := hid ((unhid HT).below hb)
  have HB := hid ((unhid HB).trans (hb.mono (unhid HB).size))
  clear hb p0 p1 p2
  cases hpb : prcB p with
  | false =>
    have HX := hid ((unhid HR1) hpb)
    clear hpb
    go_wp2_with fail
    go_ret2
    exact ⟨by rw [unhid HX]; rfl, unhid HB⟩
  | true =>
    have HPB := hid hpb
    clear hpb
    obtain ⟨s0, s1, s2, s3, s4⟩ := (unhid HT).cells
    go_wp2_with fail
    refine (picture_calls t w1 ht).mono ?_
    rintro e w2 ⟨hb, g, A1, c1, pw, ph, B1, B2, n1, k1, n2, k2, rfl, hi, hyes⟩
    have HP := hid ((unhid HP).below hb)
    have HB := hid ((unhid HB).trans (hb.mono (unhid HB).size))
    have HI := hid hi
    have HYES := hid hyes
    clear hb hi hyes s0 s1 s2 s3 s4 HT
    cases htb : tyB t with
    | false =>
      have HX := hid ((unhid HR2) (unhid HPB) htb)
      clear htb HYES HI
      go_wp2_with fail
      go_ret2
      exact ⟨by rw [unhid HX]; rfl, below_alloc' (below_alloc' (unhid HB) _) _⟩
    | true =>
      have HTB := hid htb
      obtain ⟨hf, hgd, rfl, rfl, rfl, rfl, hrd⟩ := (unhid HYES) htb
      have HGD := hid hgd
      have HRD := hid hrd
      have HF := hid hf
      clear hgd hrd htb HYES
      go_upto_region 4 with (fail)
      change Code.wp _ _ _ _ ((w2.alloc (.cells #[.int .i64 g.shape, .int .i64 g.size, .int .i64 g.height, .slice A1 g.items.length c1] 60)).alloc (.cells #[.int .i64 g.size, .int .i64 (heiF g), .slice B1 (numD g) k1, .slice B2 (numD g) k2] 62))
      have hb1 := below_alloc w2 (.cells #[.int .i64 g.shape, .int .i64 g.size, .int .i64 g.height, .slice A1 g.items.length c1] 60)
      have hb2 := below_alloc (w2.alloc (.cells #[.int .i64 g.shape, .int .i64 g.size, .int .i64 g.height, .slice A1 g.items.length c1] 60)) (.cells #[.int .i64 g.size, .int .i64 (heiF g), .slice B1 (numD g) k1, .slice B2 (numD g) k2] 62)
      have HP := hid (((unhid HP).below hb1).below hb2)
      have HB := hid (below_alloc' (below_alloc' (unhid HB) (.cells #[.int .i64 g.shape, .int .i64 g.size, .int .i64 g.height, .slice A1 g.items.length c1] 60)) (.cells #[.int .i64 g.size, .int .i64 (heiF g), .slice B1 (numD g) k1, .slice B2 (numD g) k2] 62))
      have HE := hid ((FaceAt.new w2 c1 (unhid HI)).below hb2)
      have hPI := PicAt.new (w2.alloc (.cells #[.int .i64 g.shape, .int .i64 g.size, .int .i64 g.height, .slice A1 g.items.length c1] 60)) B2 k1 k2 ((unhid HRD).below hb1)
      rw [World.size_alloc] at hPI
      have HPI := hid hPI
      generalize (w2.alloc (.cells #[.int .i64 g.shape, .int .i64 g.size, .int .i64 g.height, .slice A1 g.items.length c1] 60)).alloc (.cells #[.int .i64 g.size, .int .i64 (heiF g), .slice B1 (numD g) k1, .slice B2 (numD g) k2] 62) = w3 at *
      generalize w2.heap.size = E at *
      clear hb1 hb2 HI HRD hPI
      by_cases hn : 1 ≤ n ∧ n ≤ 10000
      rotate_left
      · have HX := hid ((unhid HR3) (unhid HPB) (unhid HTB) hn)
        have d1 : decide (1 ≤ n ∧ n ≤ 10000) = false := decide_eq_false hn
        clear hn
        go_wp2_with (go_at_call 26; refine (wfrom_calls _ _ _ _).mono ?_; rintro e w' ⟨rfl, rfl⟩)
        go_ret2
        exact ⟨by rw [unhid HX]; rfl, unhid HB⟩
      have HX := hid ((unhid HR4) (unhid HPB) (unhid HTB) hn)
      have d1 : decide (1 ≤ n ∧ n ≤ 10000) = true := decide_eq_true hn
      have HONE := hid (one_parts (unhid HPB) hf)
      have HQUO := hid (quo_parts (unhid HPB) hf hn)
      have HOFF := hid (offK_bounds (unhid HPB) n p.steps.length (Nat.le_refl _))
      have HALL := hid (dotsK_all hf)
      have hsl := screensK_le g 8
      obtain ⟨z0, z1⟩ := size_bounds hf
      obtain ⟨h0, h1⟩ := heiF_bounds hf
      obtain ⟨y0, y1⟩ := area_bounds hf 0
      obtain ⟨x0, x1⟩ := dots9_bounds hf
      obtain ⟨n0, n1⟩ := hn
      obtain ⟨⟨p0, p1⟩, ⟨r0, r1⟩, hl10, -⟩ := prcB_parts (unhid HPB)
      clear hf
      go_wp2_with (go_at_call 26; refine (wfrom_calls _ _ _ _).mono ?_; rintro e w' ⟨rfl, rfl⟩)
      go_loopw [12, 11] (fun iv ov wr => ∃ k : Nat, k ≤ p.steps.length ∧ iv = .int .i64 k ∧ ov = .int .i64 (offK p.steps n k) ∧ wr = w3) (fun iv _ _ => p.steps.length - (intOf iv).toNat)
      case atStart => exact ⟨0, Nat.zero_le _, rfl, rfl, rfl⟩
      case round =>
        obtain ⟨k, hk, rfl, rfl, rfl⟩ := hrel
        obtain ⟨q0, q1, q2⟩ := (unhid HP).cells
        by_cases hlt : k < p.steps.length
        · obtain ⟨b, off, rfl, hb, hc⟩ := (unhid HP).ok.rd (stps_ne hlt)
          obtain ⟨m0, m1⟩ := stps_cells hc hlt
          have hki : (k : Int) < (p.steps.length : Int) := by omega
          have HYS := hid (fun h => offK_yes (l := p.steps) (n := n) (k := k) h)
          have HNS := hid (fun h => offK_no (l := p.steps) (n := n) (k := k) h)
          obtain ⟨cn, hcn⟩ : ∃ x, x = (p.steps.getD k ⟨0, 0⟩).count := ⟨_, rfl⟩
          obtain ⟨ml, hml⟩ : ∃ x, x = (p.steps.getD k ⟨0, 0⟩).mille := ⟨_, rfl⟩
          rw [← hcn] at m0 HYS HNS
          rw [← hml] at m1 HYS
          obtain ⟨ov, hov⟩ : ∃ x, x = offK p.steps n k := ⟨_, rfl⟩
          rw [← hov] at HNS ⊢
          clear hcn hml hov hb hc
          by_cases hle : cn ≤ n
          · have HS := hid ((unhid HYS) hle)
            go_wp2_with fail
            go_roundw
            case rel => exact ⟨k + 1, by omega, by go_num, by rw [unhid HS], by first | rfl | trivial⟩
            case measure => simp [intOf]; omega
          · have HS := hid ((unhid HNS) hle)
            go_wp2_with fail
            go_roundw
            case rel => exact ⟨k + 1, by omega, by go_num, by rw [unhid HS], by first | rfl | trivial⟩
            case measure => simp [intOf]; omega
        · obtain rfl : k = p.steps.length := by omega
          obtain ⟨e0, e1, e2, e3⟩ := (unhid HE).cells
          go_wp2_with fail
          refine (rextent_calls g A1 c1 wr (by omega) (by omega)).mono ?_
          rintro e w4 ⟨rfl, hb⟩
          have HP := hid ((unhid HP).below hb)
          have HB := hid ((unhid HB).trans (hb.mono (unhid HB).size))
          have HPI := hid ((unhid HPI).below hb)
          clear hb e0 e1 e2 e3 q0 q1 q2 HE
          obtain ⟨f0, f1, f2, f3⟩ := (unhid HPI).cells
          obtain ⟨m0, m1⟩ := mul_in3 (a := g.size) (b := heiF g) (A := 200) (B := 200) (by omega) (by omega) (by omega) (by omega)
          go_wp2_with fail
          refine (rareas_calls g B1 B2 k1 k2 w4 (unhid HF) (unhid HPI).rd).mono ?_
          rintro e w5 ⟨rfl, hb⟩
          have HP := hid ((unhid HP).below hb)
          have HB := hid ((unhid HB).trans (hb.mono (unhid HB).size))
          have HPI := hid ((unhid HPI).below hb)
          clear hb f0 f1 f2 f3
          rw [areas_lit]
          have HDD := hid (unhid HALL)
          obtain ⟨a0, ha0⟩ : ∃ x, x = areaP g 0 := ⟨_, rfl⟩
          rw [← ha0] at y0 y1 HDD ⊢
          clear ha0
          generalize areaP g 1 = a1
          generalize areaP g 2 = a2
          generalize areaP g 3 = a3
          generalize areaP g 4 = a4
          generalize areaP g 5 = a5
          generalize areaP g 6 = a6
          generalize areaP g 7 = a7
          generalize areaP g 8 = a8
          generalize areaP g 9 = a9
          have i0 : ∀ w, (Instr.index 68 (.agg #[.int .i64 a0, .int .i64 a1, .int .i64 a2, .int .i64 a3, .int .i64 a4, .int .i64 a5, .int .i64 a6, .int .i64 a7, .int .i64 a8, .int .i64 a9]) (.int .i64 0)).run Tryz.prog w = .ok (.int .i64 a0) w := fun _ => by kernel_rfl
          go_upto_region 16 with (fail)
          rw [← unhid HDD]
          obtain ⟨⟨o0, o1⟩, o2, o3⟩ := unhid HONE
          have HO := hid (show dotsK g 9 * p.dot + ((screensK g 8).length : Int) * p.scr = oneP p g from rfl)
          obtain ⟨⟨u0, u1⟩, u2, u3⟩ := unhid HQUO
          obtain ⟨v0, v1⟩ := unhid HOFF
          have HRES := hid (show n * oneP p g * (1000 - offK p.steps n p.steps.length) / 1000 = quoP p g n from rfl)
          have u2 : 0 ≤ n * oneP p g * (1000 - offK p.steps n p.steps.length) := u2
          have u3 : n * oneP p g * (1000 - offK p.steps n p.steps.length) ≤ 3600080000000000000 := u3
          obtain ⟨ov, hov⟩ : ∃ x, x = offK p.steps n p.steps.length := ⟨_, rfl⟩
          rw [← hov] at u2 u3 v0 v1 HRES ⊢
          obtain ⟨dd, hdd⟩ : ∃ x, x = dotsK g 9 := ⟨_, rfl⟩
          rw [← hdd] at o0 o1 x0 x1 HO ⊢
          clear hov hdd m0 m1 y0 y1 z0 z1 h0 h1 HDD HALL
          have HSC := hid (fun W h => rscreens_calls g B1 B2 k1 k2 W (unhid HF) h)
          have HW := hid (fun (sl : Nat) (hs : sl = (screensK g 8).length) => wraps_quote (n := n) (d := dd) (s := (sl : Int)) (ov := ov) (res := quoP p g n) (one := oneP p g) (pd := p.dot) (ps := p.scr) (by subst hs; exact unhid HO) ⟨o0, o1⟩ (by subst hs; exact ⟨o2, o3⟩) ⟨u0, u1⟩ ⟨u2, u3⟩ ⟨v0, v1⟩ (unhid HRES))
          clear o0 o1 o2 o3 u0 u1 u2 u3
          have hSF : ∀ w' : World, PrAt w' w.heap.size p A c → PicAt w' (E + 1) g B1 B2 k1 k2 → (w'.cell? ⟨w.heap.size, 0, none⟩ = some (.int .i64 p.dot) ∧ w'.cell? ⟨w.heap.size, 1, none⟩ = some (.int .i64 p.scr) ∧ w'.cell? ⟨E + 1, 0, none⟩ = some (.int .i64 g.size) ∧ w'.cell? ⟨E + 1, 1, none⟩ = some (.int .i64 (heiF g)) ∧ w'.cell? ⟨E + 1, 2, none⟩ = some (.slice B1 (numD g) k1) ∧ w'.cell? ⟨E + 1, 3, none⟩ = some (.slice B2 (numD g) k2)) := fun w' h1 h2 => ⟨h1.cells.1, h1.cells.2.1, h2.cells.1, h2.cells.2.1, h2.cells.2.2.1, h2.cells.2.2.2⟩
          have HSF := hid hSF
          have hdb : Below w5.heap.size w5 w5.drew := Below.drew (Below.refl _ _)
          have HP := hid ((unhid HP).below hdb)
          have HPI := hid ((unhid HPI).below hdb)
          have HB := hid ((unhid HB).trans (hdb.mono (unhid HB).size))
          clear hSF hdb
          refine wp_region_noPanic ?_
          refine wp_region_E (S := fun w' => w'.cell? ⟨w.heap.size, 0, none⟩ = some (.int .i64 p.dot) ∧ w'.cell? ⟨w.heap.size, 1, none⟩ = some (.int .i64 p.scr) ∧ w'.cell? ⟨E + 1, 0, none⟩ = some (.int .i64 g.size) ∧ w'.cell? ⟨E + 1, 1, none⟩ = some (.int .i64 (heiF g)) ∧ w'.cell? ⟨E + 1, 2, none⟩ = some (.slice B1 (numD g) k1) ∧ w'.cell? ⟨E + 1, 3, none⟩ = some (.slice B2 (numD g) k2)) 17 19 rfl (by kernel_rfl) (by kernel_rfl) ((unhid HSF) _ (unhid HP) (unhid HPI)) ?_
          intro hSE
          generalize w5.drew = Wd at *
          (refine WE_take (i := 0) (v := ?_) rfl (by kernel_rfl) (by decide) (by kernel_rfl) (by kernel_rfl) (fun _ _ _ h => h) (by rfl) hSE ?_ ?_; rotate_left; (focus (intro w hSw; (try dsimp only at hSw); go_simp; (try with_reducible rfl))); simp only [Act.put, List.setIfInBounds_toArray, List.set_cons_zero, List.set_cons_succ])
          (refine WE_take (i := 1) (v := ?_) rfl (by kernel_rfl) (by decide) (by kernel_rfl) (by kernel_rfl) (fun _ _ _ h => h) (by rfl) hSE ?_ ?_; rotate_left; (focus (intro w hSw; (try dsimp only at hSw); go_simp; (try with_reducible rfl))); simp only [Act.put, List.setIfInBounds_toArray, List.set_cons_zero, List.set_cons_succ])
          (refine WE_take (i := 2) (v := ?_) rfl (by kernel_rfl) (by decide) (by kernel_rfl) (by kernel_rfl) (fun _ _ _ h => h) (by rfl) hSE ?_ ?_; rotate_left; (focus (intro w hSw; (try dsimp only at hSw); go_simp; (try with_reducible rfl))); simp only [Act.put, List.setIfInBounds_toArray, List.set_cons_zero, List.set_cons_succ])
          (refine WE_take (i := 3) (v := ?_) rfl (by kernel_rfl) (by decide) (by kernel_rfl) (by kernel_rfl) (fun _ _ _ h => h) (by rfl) hSE ?_ ?_; rotate_left; (focus (intro w hSw; (try dsimp only at hSw); go_simp; (try with_reducible rfl))); simp only [Act.put, List.setIfInBounds_toArray, List.set_cons_zero, List.set_cons_succ])
          (refine WE_take (i := 4) (v := ?_) rfl (by kernel_rfl) (by decide) (by kernel_rfl) (by kernel_rfl) (fun _ _ _ h => h) (by rfl) hSE ?_ ?_; rotate_left; (focus (intro w hSw; (try dsimp only at hSw); go_simp; (try with_reducible rfl))); simp only [Act.put, List.setIfInBounds_toArray, List.set_cons_zero, List.set_cons_succ])
          (refine WE_take (i := 5) (v := ?_) rfl (by kernel_rfl) (by decide) (by kernel_rfl) (by kernel_rfl) (fun _ _ _ h => h) (by rfl) hSE ?_ ?_; rotate_left; (focus (intro w hSw; (try dsimp only at hSw); go_simp; (try with_reducible rfl))); simp only [Act.put, List.setIfInBounds_toArray, List.set_cons_zero, List.set_cons_succ])
          (refine WE_take (i := 6) (v := ?_) rfl (by kernel_rfl) (by decide) (by kernel_rfl) (by kernel_rfl) (fun _ _ _ h => h) (by rfl) hSE ?_ ?_; rotate_left; (focus (intro w hSw; (try dsimp only at hSw); go_simp; (try with_reducible rfl))); simp only [Act.put, List.setIfInBounds_toArray, List.set_cons_zero, List.set_cons_succ])
          (refine WE_take (i := 7) (v := ?_) rfl (by kernel_rfl) (by decide) (by kernel_rfl) (by kernel_rfl) (fun _ _ _ h => h) (by rfl) hSE ?_ ?_; rotate_left; (focus (intro w hSw; (try dsimp only at hSw); go_simp; (try with_reducible rfl))); simp only [Act.put, List.setIfInBounds_toArray, List.set_cons_zero, List.set_cons_succ])
          (refine WE_take (i := 13) (v := ?_) rfl (by kernel_rfl) (by decide) (by kernel_rfl) (by kernel_rfl) (fun _ _ _ h => h) (by rfl) hSE ?_ ?_; rotate_left; (focus (intro w hSw; (try dsimp only at hSw); go_simp; (try with_reducible rfl))); simp only [Act.put, List.setIfInBounds_toArray, List.set_cons_zero, List.set_cons_succ])
          (refine WE_take (i := 14) (v := ?_) rfl (by kernel_rfl) (by decide) (by kernel_rfl) (by kernel_rfl) (fun _ _ _ h => h) (by rfl) hSE ?_ ?_; rotate_left; (focus (intro w hSw; (try dsimp only at hSw); go_simp; (try with_reducible rfl))); simp only [Act.put, List.setIfInBounds_toArray, List.set_cons_zero, List.set_cons_succ])
          (refine WE_one (i := 8) rfl (by decide) (by kernel_rfl) ?_; intro K hK)
          go_simp
          go_at_call 29
          refine ((unhid HSC) Wd (unhid HPI).rd).mono ?_
          rintro e w6 ⟨hb6, A3, c3, rfl, -⟩
          have HP := hid ((unhid HP).below hb6)
          have HPI := hid ((unhid HPI).below hb6)
          have HB := hid ((unhid HB).trans (hb6.mono (unhid HB).size))
          obtain ⟨sl, hsl2⟩ : ∃ x, x = (screensK g 8).length := ⟨_, rfl⟩
          have HWW := hid ((unhid HW) sl hsl2)
          rw [← hsl2] at hsl ⊢
          refine hK.out _ _ ((unhid HSF) _ (unhid HP) (unhid HPI)) ?_
          clear hSE hK K hb6 hsl2
          intro hSE
          (try simp only [Act.put, List.setIfInBounds_toArray, List.set_cons_zero, List.set_cons_succ])
          (refine WE_take (i := 9) (v := ?_) rfl (by kernel_rfl) (by decide) (by kernel_rfl) (by kernel_rfl) (fun _ _ _ h => h) (by rfl) hSE ?_ ?_; rotate_left; (focus (intro w hSw; (try dsimp only at hSw); go_simp; (try with_reducible rfl))); simp only [Act.put, List.setIfInBounds_toArray, List.set_cons_zero, List.set_cons_succ])
          (refine WE_take (i := 10) (v := ?_) rfl (by kernel_rfl) (by decide) (by kernel_rfl) (by kernel_rfl) (fun _ _ _ h => h) (by rfl) hSE ?_ ?_; rotate_left; (focus (intro w hSw; (try dsimp only at hSw); go_simp; (try with_reducible rfl))); simp only [Act.put, List.setIfInBounds_toArray, List.set_cons_zero, List.set_cons_succ])
          (refine WE_take (i := 11) (v := ?_) rfl (by kernel_rfl) (by decide) (by kernel_rfl) (by kernel_rfl) (fun _ _ _ h => h) (by rfl) hSE ?_ ?_; rotate_left; (focus (intro w hSw; (try dsimp only at hSw); go_simp; (try with_reducible rfl))); simp only [Act.put, List.setIfInBounds_toArray, List.set_cons_zero, List.set_cons_succ])
          (refine WE_take (i := 12) (v := ?_) rfl (by kernel_rfl) (by decide) (by kernel_rfl) (by kernel_rfl) (fun _ _ _ h => h) (by rfl) hSE ?_ ?_; rotate_left; (focus (intro w hSw; (try dsimp only at hSw); go_simp; (try with_reducible rfl))); simp only [Act.put, List.setIfInBounds_toArray, List.set_cons_zero, List.set_cons_succ])
          (refine WE_take (i := 15) (v := ?_) rfl (by kernel_rfl) (by decide) (by kernel_rfl) (by kernel_rfl) (fun _ _ _ h => h) (by rfl) hSE ?_ ?_; rotate_left; (focus (intro w hSw; (try dsimp only at hSw); go_simp; (try with_reducible rfl))); simp only [Act.put, List.setIfInBounds_toArray, List.set_cons_zero, List.set_cons_succ])
          (refine WE_take (i := 16) (v := ?_) rfl (by kernel_rfl) (by decide) (by kernel_rfl) (by kernel_rfl) (fun _ _ _ h => h) (by rfl) hSE ?_ ?_; rotate_left; (focus (intro w hSw; (try dsimp only at hSw); go_simp; (try with_reducible rfl))); simp only [Act.put, List.setIfInBounds_toArray, List.set_cons_zero, List.set_cons_succ])
          refine WE_tail (by kernel_rfl) (by kernel_rfl) (by rfl) ?_
          simp only [List.drop_succ_cons, List.drop_zero]
          go_wp2_with fail
          refine NoPanic.normal ?_
          go_wp2_with fail
          go_ret2
          refine ⟨?_, unhid HB⟩
          rw [unhid HX, ← unhid HGD, ← unhid HWW]
          rfl

end Go.Proofs.YtbnnnjkfhffekaaGreatDoor
