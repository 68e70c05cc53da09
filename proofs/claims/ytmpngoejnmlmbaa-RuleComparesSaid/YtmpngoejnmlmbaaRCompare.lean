/-
  The reference's Compare; SameGaps.
-/
import Derived.Test.YtmpngoejnmlmbaaRAll
import Derived.Test.YtmpngoejnmlmbaaRowM
import Derived.Test.YtmpngoejnmlmbaaCmpK
import Derived.Deep.DeepCutAuto
set_option linter.unusedSimpArgs false
set_option linter.unusedVariables false
namespace Go.Proofs.Ytmpngoejnmlmbaa
open Go.RowKit

theorem rgpStep_push {topic dir : Int} {out : List Gp} {m h s : Int} (hne : h ≠ s) (hn : ∀ g, out.getLast? = some g → ¬ (g.topic = topic ∧ g.dir = dir ∧ g.to = m ∧ g.has = h ∧ g.should = s)) : rgpStep topic dir out m h s = out ++ [⟨topic, dir, m, m + 1, h, s⟩] := by
  unfold rgpStep
  rw [if_neg hne]
  cases hg : out.getLast? with
  | none => rfl
  | some g => dsimp only; rw [if_neg (hn g hg)]
theorem rgpStep_inc {topic dir : Int} {out : List Gp} {m h s : Int} {q : Nat} {g : Gp} (hne : h ≠ s) (hq : out.length = q + 1) (hg : out[q]? = some g) (h0 : g.topic = topic) (h1 : g.dir = dir) (h2 : g.to = m) (h3 : g.has = h) (h4 : g.should = s) : rgpStep topic dir out m h s = out.set q g.up := by
  unfold rgpStep
  have hl : out.getLast? = some g := by rw [List.getLast?_eq_getElem?, hq]; exact hg
  rw [if_neg hne, hl]
  dsimp only
  rw [if_pos ⟨h0, h1, h2, h3, h4⟩, hq]; rfl
theorem info_gap2 : (Try.prog.info? 104).map (fun i => (i.zero, i.size, i.bytes)) = some (some (.agg #[.int .i64 0, .int .i64 0, .int .i64 0, .int .i64 0, .int .i64 0, .int .i64 0]), 6, 48) := by kernel_rfl
theorem gps_ne' {l : List Gp} {k : Nat} (h : k < l.length) : gps l ≠ [] := flat_ne (f := gpC) (K := 6) (fun _ => rfl) (by omega) h
theorem gps_at' {l : List Gp} {k : Nat} (h : k < l.length) (j : Nat) (hj : j < 6) : (gps l)[k * 6 + j]? = (gpC l[k])[j]? := flat_at (f := gpC) (K := 6) (fun _ => rfl) l k j h hj
theorem lt_of_cell' {w : World} {a : Addr} {v : Value} (h : w.cell? a = some v) : a.block < w.heap.size := by
  rcases Nat.lt_or_ge a.block w.heap.size with h1 | h1
  · exact h1
  · simp [World.cell?, Array.getElem?_eq_none h1] at h
theorem topI_at {k j : Nat} (hk : k < 2) (hj : j < 2) : topI (2 * k + j) = (k : Int) + 1 := by
  rcases (show k = 0 ∨ k = 1 by omega) with rfl | rfl <;> rcases (show j = 0 ∨ j = 1 by omega) with rfl | rfl <;> rfl
theorem dirI_at {k j : Nat} (hk : k < 2) (hj : j < 2) : dirI (2 * k + j) = 1 - 2 * (j : Int) := by
  rcases (show k = 0 ∨ k = 1 by omega) with rfl | rfl <;> rcases (show j = 0 ∨ j = 1 by omega) with rfl | rfl <;> rfl
/-- The own row keeps clear of what stays. -/
theorem GpFr.append {wS w w3 : World} {O : Nat} {gS : Option Nat} {v v2 : Value} {o : Obj} (hf : GpFr wS w O gS v) (hg : (w.alloc o).grownBy w3 v.ownBlock) (hn : ∀ g, v2.ownBlock = some g → v.ownBlock = some g ∨ w.heap.size ≤ g) : GpFr wS w3 O gS v2 := by
  have hsz := hg.size
  simp at hsz
  have hs0 := hf.size
  refine ⟨by omega, fun b hb hb1 hb2 => ?_, fun g hg' => ?_⟩
  · rw [hg.block b (by simp; omega) (fun e => ?_), Below.heap_alloc _ _ _ (by omega)]
    · exact hf.same b hb hb1 hb2
    · rcases hf.ob _ e.symm with h6 | h6
      · exact hb2 h6
      · omega
  · rcases hn g hg' with h6 | h6
    · exact hf.ob g h6
    · exact .inr (by omega)
theorem GpFr.kept {wS w w2 : World} {O : Nat} {gS : Option Nat} {v : Value} (hf : GpFr wS w O gS v) (hb : Below w.heap.size w w2) : GpFr wS w2 O gS v :=
  ⟨Nat.le_trans hf.size hb.size, fun b h1 h2 h3 => (hb.block b (Nat.lt_of_lt_of_le h1 hf.size)).trans (hf.same b h1 h2 h3), hf.ob⟩
theorem GpFr.stored {wS w : World} {O : Nat} {gS : Option Nat} {v : Value} (hf : GpFr wS w O gS v) {g : Nat} (hg : v.ownBlock = some g) (i : Nat) (u : Value) : GpFr wS (w.setCell ⟨g, i, none⟩ u) O gS v := by
  refine ⟨by simpa using hf.size, fun b hb hb1 hb2 => ?_, hf.ob⟩
  rw [block_set_other _ _ (fun e => ?_)]
  · exact hf.same b hb hb1 hb2
  · subst e
    rcases hf.ob _ hg with h6 | h6
    · exact hb2 h6
    · omega

set_option maxHeartbeats 8000000 in
set_option maxRecDepth 100000 in
theorem rcompare_calls (n : Nat) (A : Option Addr) (js : List Int) (c : Nat) (A2 : Option Addr) (l : List Sg) (c2 : Nat) (A3 : Option Addr) (ed : List Ed) (c3 : Nat) (hour : Int) (w : World)
    (hl : LnOk w A js) (hs : SgsOk w A2 l) (he : EdsOk w A3 ed) (hv : lineB n js = true) (hv2 : sgsB n js l = true) (hl50 : ed.length ≤ 100000000) :
    Calls Try.prog 34 #[.agg #[.int .i64 n, .slice A js.length c], .slice A2 l.length c2, .slice A3 ed.length c3, .int .i64 hour] w fun e w' =>
      ∃ (A' : Option Addr) (c' : Nat), e = .returned (.slice A' (gapsP n js l ed hour 4).length c') ∧ Rd w' A' (gps (gapsP n js l ed hour 4)) ∧ Below w.heap.size w w' := by
  have HL := hid hl
  have HS := hid hs
  have HE := hid he
  have HV := hid hv
  have HV2 := hid hv2
  have hn := (lineB_len hv).2
  clear hl hs he hv hv2
  obtain ⟨i0, hi, hz0, hz1, hz2⟩ := info_parts info_gap2
  go_enter Try.func34, Try.ntmps34
  go_wp2_with fail
  generalize hW : w.alloc _ = w1
  have hB1 : w.heap.size < w1.heap.size := by rw [← hW]; simp
  have d0 : w1.cell? ⟨w.heap.size, 0, none⟩ = some (.int .i64 n) := by rw [← hW]; simp [go_sem]
  have d1 : w1.cell? ⟨w.heap.size, 1, none⟩ = some (.slice A js.length c) := by rw [← hW]; simp [go_sem]
  have hbw1 : Below w.heap.size w w1 := by rw [← hW]; exact below_alloc _ _
  clear hW
  go_loopw [9, 10] (fun v t wr => ∃ (k : Nat) (A6 : Option Addr) (c6 : Nat), k ≤ 2 ∧ t = .int .i64 (k + 1) ∧ v = .slice A6 (gapsP n js l ed hour (2 * k)).length c6 ∧ wr.ownsRow w1.heap.size 104 6 (.slice A6 (gapsP n js l ed hour (2 * k)).length c6) (gapsP n js l ed hour (2 * k)).length (gps (gapsP n js l ed hour (2 * k))) ∧ Below w1.heap.size w1 wr) (fun _ t _ => 3 - (intOf t).toNat)
  case atStart => exact ⟨0, none, 0, by omega, rfl, rfl, World.ownsRow_nil _ _ _ _, Below.refl _ _⟩
  case round =>
    obtain ⟨k, A6, c6, hk, rfl, rfl, hown, hbel⟩ := hrel
    have HO := hid hown
    clear hown
    by_cases hlt : k < 2
    · go_wp2_with fail
      go_loopw [9, 11] (fun v d wr => ∃ (j : Nat) (A6 : Option Addr) (c6 : Nat), j ≤ 2 ∧ d = .int .i64 (1 - 2 * (j : Int)) ∧ v = .slice A6 (gapsP n js l ed hour (2 * k + j)).length c6 ∧ wr.ownsRow w1.heap.size 104 6 (.slice A6 (gapsP n js l ed hour (2 * k + j)).length c6) (gapsP n js l ed hour (2 * k + j)).length (gps (gapsP n js l ed hour (2 * k + j))) ∧ Below w1.heap.size w1 wr) (fun _ d _ => (intOf d + 3).toNat)
      case atStart => exact ⟨0, A6, c6, by omega, rfl, rfl, unhid HO, hbel⟩
      case round =>
        clear HO hbel
        obtain ⟨j, A6, c6, hj, rfl, rfl, hown, hbel⟩ := hrel
        have HO := hid hown
        clear hown
        by_cases hjt : j < 2
        · have hT := topI_at hlt hjt
          have hD := dirI_at hlt hjt
          have hi4 : 2 * k + j < 4 := by omega
          have hlen0 := gapsP_len n js l ed hour (2 * k + j)
          have hlen2 : (2 * k + j) * n ≤ 4 * 100000 := Nat.mul_le_mul (by omega) (by omega)
          have HPT := hid (gapsP_part n js l ed hour (2 * k + j) hi4)
          have HSU := hid (gapsP_succ n js l ed hour (2 * k + j))
          rw [hT, hD] at HPT HSU
          generalize ho0 : gapsP n js l ed hour (2 * k + j) = out0 at *
          have HO0 := hid ho0
          clear ho0
          obtain ⟨topic, htopic⟩ : ∃ t : Int, t = (k : Int) + 1 := ⟨_, rfl⟩
          obtain ⟨dir, hdir⟩ : ∃ t : Int, t = 1 - 2 * (j : Int) := ⟨_, rfl⟩
          rw [← htopic, ← hdir] at HPT HSU
          have f0 := (hbel.cell (p := ⟨w.heap.size, 0, none⟩) hB1).trans d0
          have f1 := (hbel.cell (p := ⟨w.heap.size, 1, none⟩) hB1).trans d1
          have hBr := Nat.lt_of_lt_of_le hB1 hbel.size
          clear hT hD
          rw [← htopic, ← hdir]
          have hda : (-1 : Int) ≤ dir := by omega
          have hdb : dir ≤ 1 := by omega
          have HTO := hid htopic
          have HDI := hid hdir
          clear htopic hdir
          go_wp2_with fail
          have HLr := hid ((unhid HL).below (hbw1.trans (hbel.mono hbw1.size)))
          have HSr := hid ((unhid HS).below (hbw1.trans (hbel.mono hbw1.size)))
          have HEr := hid ((unhid HE).below (hbw1.trans (hbel.mono hbw1.size)))
          go_region_held3 (fun w' => w'.cell? ⟨w.heap.size, 0, none⟩ = some (.int .i64 n) ∧ w'.cell? ⟨w.heap.size, 1, none⟩ = some (.slice A js.length c) ∧ Below wr.heap.size wr w') (first | (refine ⟨?_, ?_, ?_⟩ <;> assumption) | (exact ⟨by assumption, by assumption, Below.drew (Below.refl _ _)⟩) | go_keep)
            (first
              | (go_at_call 69; have hh := ‹_ ∧ _ ∧ Below wr.heap.size wr _›; refine (rall_calls n A js c A2 l c2 hour dir topic _ ((unhid HLr).below hh.2.2) ((unhid HSr).below hh.2.2) (unhid HV) (unhid HV2)).mono ?_; rintro e w2 ⟨A4, c4, R, hrow, rfl, hrd4, hb2, hf4⟩; have hf4' : ∀ a, A4 = some a → wr.heap.size ≤ a.block := (fun a ha => Nat.le_trans hh.2.2.size (hf4 a ha)); have hB2 := hh.2.2.trans (hb2.mono hh.2.2.size); have q0 := (hB2.cell (p := ⟨w.heap.size, 0, none⟩) hBr).trans f0; have q1 := (hB2.cell (p := ⟨w.heap.size, 1, none⟩) hBr).trans f1; clear hh)
              | (go_at_call 70; have hh := ‹_ ∧ _ ∧ Below wr.heap.size wr _›; refine (rmusts_calls n A js.length c A3 ed c3 hour dir topic _ (by omega) ((unhid HEr).below hh.2.2).rd (by omega)).mono ?_; rintro e w3 ⟨A5, c5, rfl, hrd5, hb2, hf5⟩; have hf5' : ∀ a, A5 = some a → wr.heap.size ≤ a.block := (fun a ha => Nat.le_trans hh.2.2.size (hf5 a ha)); have hrd4 := hrd4.below hb2; have hB2 := hh.2.2.trans (hb2.mono hh.2.2.size); have q0 := (hB2.cell (p := ⟨w.heap.size, 0, none⟩) hBr).trans f0; have q1 := (hB2.cell (p := ⟨w.heap.size, 1, none⟩) hBr).trans f1; clear hh))
          have hh := ‹_ ∧ _ ∧ Below wr.heap.size wr _›
          have hbS := hh.2.2
          clear hb2 hf4 hf5 hB2 hh
          have hHS : holdS n js (mtl n dir R) dir topic = holdM n js l hour topic dir := by rw [holdM, rowM_ins hrow (sgsB_nodup (unhid HV2))]
          rw [hHS] at hrd4
          have HH4 := hid (show (holdM n js l hour topic dir).length = n from holdS_len _ _ _ _ _)
          have HH5 := hid (show (mustM n ed hour topic dir).length = n from mustS_len _ _ _ _ _)
          rw [show mustS n ed hour dir topic = mustM n ed hour topic dir from rfl] at hrd5
          clear hHS hrow
          generalize holdM n js l hour topic dir = HS2 at *
          generalize mustM n ed hour topic dir = MS at *
          have HR4 := hid hrd4
          have HR5 := hid hrd5
          have hrl4 := unhid HH4
          have hrl5 := unhid HH5
          have F4 := hid hf4'
          have F5 := hid hf5'
          clear hrd4 hrd5 hf4' hf5'
          obtain ⟨wS, hwS⟩ : ∃ wS : World, wS = w3 := ⟨_, rfl⟩
          rw [← hwS]
          rw [← hwS] at HR4 HR5 hbS q0 q1
          clear hwS
          have hoS := own_below (unhid HO) hbS
          have hbwS : Below w1.heap.size w1 wS := hbel.trans (hbS.mono hbel.size)
          obtain ⟨gS, hgS⟩ : ∃ gS, gS = (Value.slice A6 out0.length c6).ownBlock := ⟨_, rfl⟩
          have HGS := hid hgS
          have HF0 := hid (show GpFr wS wS w.heap.size gS (.slice A6 out0.length c6) from ⟨Nat.le_refl _, fun _ _ _ _ => rfl, fun g hg => .inl (by rw [unhid HGS]; exact hg)⟩)
          have hownlt : ∀ g, gS = some g → g < wr.heap.size := fun g e => by rw [hgS] at e; exact (own_lt' (unhid HO) e).2
          have N4 := hid (fun a (h : A4 = some a) => (show a.block ≠ w.heap.size ∧ gS ≠ some a.block from by
            have h1 := unhid F4 a h
            exact ⟨by omega, fun e => by have := hownlt _ e; omega⟩))
          have N5 := hid (fun a (h : A5 = some a) => (show a.block ≠ w.heap.size ∧ gS ≠ some a.block from by
            have h1 := unhid F5 a h
            exact ⟨by omega, fun e => by have := hownlt _ e; omega⟩))
          have HOS := hid hoS
          clear hgS hownlt hoS HO
          go_wp2_with fail
          go_loopw [9, 14] (fun v i wr => ∃ (k : Nat) (o : List Gp) (A6 : Option Addr) (c6 : Nat), k ≤ n ∧ i = .int .i64 k ∧ v = .slice A6 o.length c6 ∧ o = gpRun topic dir out0.length HS2 MS out0 k ∧ wr.ownsRow w1.heap.size 104 6 (.slice A6 o.length c6) o.length (gps o) ∧ Below w1.heap.size w1 wr ∧ GpFr wS wr w.heap.size gS (.slice A6 o.length c6)) (fun _ i _ => n - (intOf i).toNat)
          case atStart => exact ⟨0, out0, A6, c6, Nat.zero_le _, rfl, rfl, rfl, unhid HOS, hbwS, unhid HF0⟩
          case round =>
            clear hbel hbS hbwS HOS HF0 f0 f1 hBr
            obtain ⟨m, o, A6, c6, hm, rfl, rfl, ho, hown, hbel, hF⟩ := hrel
            have f0 := (hbel.cell (p := ⟨w.heap.size, 0, none⟩) hB1).trans d0
            have hBr := Nat.lt_of_lt_of_le hB1 hbel.size
            have holen := gpRun_len topic dir out0.length HS2 MS out0 m
            rw [← ho] at holen
            have HF := hid hF
            have HOE := hid ho
            have HO := hid hown
            clear hF hown
            by_cases hmt : m < n
            · have HSC := hid (show gpRun topic dir out0.length HS2 MS out0 (m + 1) = rgpStep topic dir o m (HS2[m]'(by omega)) (MS[m]'(by omega)) from by rw [unhid HOE, rgp_eq ((unhid HPT).run HS2 MS m)]; exact gpRun_succ topic dir out0.length HS2 MS out0 m (by omega) (by omega))
              clear ho
              have hr4 := (unhid HF).rd (unhid HR4) (fun a h => (unhid N4 a h).1) (fun a h => (unhid N4 a h).2)
              have hr5 := (unhid HF).rd (unhid HR5) (fun a h => (unhid N5 a h).1) (fun a h => (unhid N5 a h).2)
              obtain ⟨b4, off4, rfl, hb4, hc4⟩ := hr4 (ints_ne (k := m) (by omega))
              obtain ⟨b5, off5, rfl, hb5, hc5⟩ := hr5 (ints_ne (k := m) (by omega))
              have c4 := hc4 m _ (ints_at HS2 m (by omega))
              have c5 := hc5 m _ (ints_at MS m (by omega))
              clear hc4 hc5 hr4 hr5
              generalize HS2[m]'(by omega) = x at *
              generalize MS[m]'(by omega) = y at *
              by_cases hxy : x = y
              · have hxy' : (x == y) = true := by simpa using hxy
                have HNX := hid (show gpRun topic dir out0.length HS2 MS out0 (m + 1) = o from by rw [unhid HSC, rgpStep, if_pos hxy])
                have HXY := hid hxy
                clear hxy
                go_wp2_with fail
                go_quiet (fail)
                go_wp2_with fail
                go_roundw
                case rel => exact ⟨m + 1, o, A6, c6, by omega, by go_num, rfl, (unhid HNX).symm, own_drewN (unhid HO) nq, below_drewN' hbel nq, (unhid HF).drewN nq⟩
                case measure => simp [intOf]; omega
              · have hxy' : (x == y) = false := by simpa using hxy
                have HXY := hid hxy
                clear hxy
                have hk1 : IntKind.i64.wrap ((m : Int) + 1) = (m : Int) + 1 := IntWalk.i64_in _ (by omega)
                go_wp2_with fail
                go_quiet (fail)
                go_wp2_with fail
                have HOx := hid (own_drewN (unhid HO) nq)
                have HBx := hid (below_drewN' hbel nq)
                have HFx := hid ((unhid HF).drewN nq)
                have c4' : (wr.drewN nq).cell? ⟨b4, off4 + m, none⟩ = some (.int .i64 x) := c4
                have c5' : (wr.drewN nq).cell? ⟨b5, off5 + m, none⟩ = some (.int .i64 y) := c5
                have f0' : (wr.drewN nq).cell? ⟨w.heap.size, 0, none⟩ = some (.int .i64 n) := f0
                clear c4 c5 f0 HO HF hbel
                have hb4' : b4 < (wr.drewN nq).heap.size := hb4
                have hb5' : b5 < (wr.drewN nq).heap.size := hb5
                have hBr' : w.heap.size < (wr.drewN nq).heap.size := hBr
                clear hb4 hb5 hBr
                generalize wr.drewN nq = wx at *
                have HO := HOx
                have HF := HFx
                clear HOx HFx
                go_region_held3 (fun w' => w'.cell? ⟨b4, off4 + m, none⟩ = some (.int .i64 x) ∧ w'.cell? ⟨b5, off5 + m, none⟩ = some (.int .i64 y)) (first | (refine ⟨?_, ?_⟩ <;> assumption) | go_keep) (first | fail)
                clear c4' c5'
                generalize hWY : (wx.alloc (.cells #[.int .i64 topic, .int .i64 dir, .int .i64 m, .int .i64 (m + 1), .int .i64 x, .int .i64 y] 104)).drew = wy
                have hby : Below wx.heap.size wx wy := by rw [← hWY]; exact Below.drew (below_alloc _ _)
                have g0 : wy.cell? ⟨wx.heap.size, 0, none⟩ = some (.int .i64 topic) := by rw [← hWY]; simp [go_sem]
                have g1 : wy.cell? ⟨wx.heap.size, 1, none⟩ = some (.int .i64 dir) := by rw [← hWY]; simp [go_sem]
                have g2 : wy.cell? ⟨wx.heap.size, 2, none⟩ = some (.int .i64 m) := by rw [← hWY]; simp [go_sem]
                have g3 : wy.cell? ⟨wx.heap.size, 3, none⟩ = some (.int .i64 (m + 1)) := by rw [← hWY]; simp [go_sem]
                have g4 : wy.cell? ⟨wx.heap.size, 4, none⟩ = some (.int .i64 x) := by rw [← hWY]; simp [go_sem]
                have g5 : wy.cell? ⟨wx.heap.size, 5, none⟩ = some (.int .i64 y) := by rw [← hWY]; simp [go_sem]
                have f0 : wy.cell? ⟨w.heap.size, 0, none⟩ = some (.int .i64 n) := (hby.cell (p := ⟨w.heap.size, 0, none⟩) hBr').trans f0'
                have HOy := hid (own_below (unhid HO) hby)
                have HFy := hid ((unhid HF).kept hby)
                have HBEL := hid ((unhid HBx).trans (hby.mono (unhid HBx).size))
                have hyx : wx.heap.size < wy.heap.size := by rw [← hWY]; simp
                have hwy : w1.heap.size ≤ wy.heap.size := (unhid HBEL).size
                clear hWY hby HO HF HBx f0' hb4' hb5' hBr'
                have HO := HOy
                have HF := HFy
                clear HOy HFy
                obtain ⟨B2, hB2⟩ : ∃ B2, B2 = wx.heap.size := ⟨_, rfl⟩
                rw [← hB2] at g0 g1 g2 g3 g4 g5 hyx ⊢
                have HB2 := hid hB2
                clear hB2
                go_wp2_with fail
                go_cut [121] (fun s121 wz => ∃ tb : Bool, s121 = .bool tb ∧ (tb = true → ∃ q z, o.length = q + 1 ∧ o[q]? = some z ∧ z.to = (m : Int) ∧ gpRun topic dir out0.length HS2 MS out0 (m + 1) = o.set q z.up) ∧ (tb = false → gpRun topic dir out0.length HS2 MS out0 (m + 1) = o ++ [⟨topic, dir, m, m + 1, x, y⟩]) ∧ wz.ownsRow w1.heap.size 104 6 (.slice A6 o.length c6) o.length (gps o) ∧ Below w1.heap.size w1 wz ∧ GpFr wS wz w.heap.size gS (.slice A6 o.length c6) ∧ wz.cell? ⟨B2, 0, none⟩ = some (.int .i64 topic) ∧ wz.cell? ⟨B2, 1, none⟩ = some (.int .i64 dir) ∧ wz.cell? ⟨B2, 2, none⟩ = some (.int .i64 m) ∧ wz.cell? ⟨B2, 3, none⟩ = some (.int .i64 (m + 1)) ∧ wz.cell? ⟨B2, 4, none⟩ = some (.int .i64 x) ∧ wz.cell? ⟨B2, 5, none⟩ = some (.int .i64 y) ∧ wz.cell? ⟨w.heap.size, 0, none⟩ = some (.int .i64 n))
                case first =>
                  by_cases hol : 0 < o.length
                  · have := decide_eq_true (show (0 : Int) < (o.length : Int) by omega)
                    obtain ⟨g, cg, hvv, hbg, hgs, hcells⟩ := own_some (unhid HO) hol
                    injection hvv with hv1 hv2 hv3
                    subst hv1 hv3
                    obtain ⟨q, hq⟩ : ∃ q, o.length = q + 1 := ⟨o.length - 1, by omega⟩
                    have HQ := hid hq
                    have hq1 : IntKind.i64.wrap ((o.length : Int) - 1) = (o.length : Int) - 1 := IntWalk.i64_in _ (by omega)
                    have hq2 : (0 : Int) ≤ (o.length : Int) - 1 := by omega
                    have hq3 : ((o.length : Int) - 1).toNat = q := by omega
                    have hq4 : (o.length : Int) - 1 < (o.length : Int) := by omega
                    clear hq
                    have t0 : wy.cell? ⟨g, q * 6, none⟩ = some (.int .i64 (o[q]'(by have := unhid HQ; omega)).topic) := hcells _ _ (gps_at' (by have := unhid HQ; omega) 0 (by omega))
                    have t1 : wy.cell? ⟨g, q * 6 + 1, none⟩ = some (.int .i64 (o[q]'(by have := unhid HQ; omega)).dir) := hcells _ _ (gps_at' (by have := unhid HQ; omega) 1 (by omega))
                    have t3 : wy.cell? ⟨g, q * 6 + 3, none⟩ = some (.int .i64 (o[q]'(by have := unhid HQ; omega)).to) := hcells _ _ (gps_at' (by have := unhid HQ; omega) 3 (by omega))
                    have t4 : wy.cell? ⟨g, q * 6 + 4, none⟩ = some (.int .i64 (o[q]'(by have := unhid HQ; omega)).has) := hcells _ _ (gps_at' (by have := unhid HQ; omega) 4 (by omega))
                    have t5 : wy.cell? ⟨g, q * 6 + 5, none⟩ = some (.int .i64 (o[q]'(by have := unhid HQ; omega)).should) := hcells _ _ (gps_at' (by have := unhid HQ; omega) 5 (by omega))
                    have HZE := hid (show o[q]? = some (o[q]'(by have := unhid HQ; omega)) from List.getElem?_eq_getElem _)
                    have HLA := hid (show o.getLast? = some (o[q]'(by have := unhid HQ; omega)) by rw [List.getLast?_eq_getElem?, show o.length - 1 = q by have := unhid HQ; omega]; exact List.getElem?_eq_getElem _)
                    clear hcells
                    generalize o[q]'(by have := unhid HQ; omega) = z at *
                    rcases (show (¬ z.topic = topic) ∨ (z.topic = topic ∧ ¬ z.dir = dir) ∨ (z.topic = topic ∧ z.dir = dir ∧ ¬ z.to = (m : Int)) ∨ (z.topic = topic ∧ z.dir = dir ∧ z.to = (m : Int) ∧ ¬ z.has = x) ∨ (z.topic = topic ∧ z.dir = dir ∧ z.to = (m : Int) ∧ z.has = x ∧ ¬ z.should = y) ∨ (z.topic = topic ∧ z.dir = dir ∧ z.to = (m : Int) ∧ z.has = x ∧ z.should = y) by omega) with e | ⟨w0, e⟩ | ⟨w0, w1, e⟩ | ⟨w0, w1, w2, e⟩ | ⟨w0, w1, w2, w3, e⟩ | ⟨w0, w1, w2, w3, w4⟩
                    · have a0 : (z.topic == topic) = false := by simpa using e
                      have HE := hid e
                      have HNY := hid (show gpRun topic dir out0.length HS2 MS out0 (m + 1) = o ++ [⟨topic, dir, m, m + 1, x, y⟩] from by rw [unhid HSC]; exact rgpStep_push (unhid HXY) (fun g hg => by rw [unhid HLA] at hg; injection hg with hg; subst hg; exact fun h => unhid HE h.1))
                      clear e
                      have HNX := unhid HNY
                      go_wp2_with fail
                      go_quiet (fail)
                      go_wp2_with fail
                      go_meet
                      case rel => exact ⟨false, rfl, fun h => (Bool.noConfusion h), fun _ => HNX, own_drewN (unhid HO) nq, below_drewN' (unhid HBEL) nq, (unhid HF).drewN nq, g0, g1, g2, g3, g4, g5, f0⟩
                    · have a0 : (z.topic == topic) = true := by simpa using w0
                      have a1 : (z.dir == dir) = false := by simpa using e
                      have HE := hid e
                      have HNY := hid (show gpRun topic dir out0.length HS2 MS out0 (m + 1) = o ++ [⟨topic, dir, m, m + 1, x, y⟩] from by rw [unhid HSC]; exact rgpStep_push (unhid HXY) (fun g hg => by rw [unhid HLA] at hg; injection hg with hg; subst hg; exact fun h => unhid HE h.2.1))
                      clear w0 e
                      have HNX := unhid HNY
                      go_wp2_with fail
                      go_quiet (fail)
                      go_wp2_with fail
                      go_meet
                      case rel => exact ⟨false, rfl, fun h => (Bool.noConfusion h), fun _ => HNX, own_drewN (unhid HO) nq, below_drewN' (unhid HBEL) nq, (unhid HF).drewN nq, g0, g1, g2, g3, g4, g5, f0⟩
                    · have a0 : (z.topic == topic) = true := by simpa using w0
                      have a1 : (z.dir == dir) = true := by simpa using w1
                      have a2 : (z.to == (m : Int)) = false := by simpa using e
                      have HE := hid e
                      have HNY := hid (show gpRun topic dir out0.length HS2 MS out0 (m + 1) = o ++ [⟨topic, dir, m, m + 1, x, y⟩] from by rw [unhid HSC]; exact rgpStep_push (unhid HXY) (fun g hg => by rw [unhid HLA] at hg; injection hg with hg; subst hg; exact fun h => unhid HE h.2.2.1))
                      clear w0 w1 e
                      have HNX := unhid HNY
                      go_wp2_with fail
                      go_quiet (fail)
                      go_wp2_with fail
                      go_meet
                      case rel => exact ⟨false, rfl, fun h => (Bool.noConfusion h), fun _ => HNX, own_drewN (unhid HO) nq, below_drewN' (unhid HBEL) nq, (unhid HF).drewN nq, g0, g1, g2, g3, g4, g5, f0⟩
                    · have a0 : (z.topic == topic) = true := by simpa using w0
                      have a1 : (z.dir == dir) = true := by simpa using w1
                      have a2 : (z.to == (m : Int)) = true := by simpa using w2
                      have a3 : (z.has == x) = false := by simpa using e
                      have HE := hid e
                      have HNY := hid (show gpRun topic dir out0.length HS2 MS out0 (m + 1) = o ++ [⟨topic, dir, m, m + 1, x, y⟩] from by rw [unhid HSC]; exact rgpStep_push (unhid HXY) (fun g hg => by rw [unhid HLA] at hg; injection hg with hg; subst hg; exact fun h => unhid HE h.2.2.2.1))
                      clear w0 w1 w2 e
                      have HNX := unhid HNY
                      go_wp2_with fail
                      go_quiet (fail)
                      go_wp2_with fail
                      go_meet
                      case rel => exact ⟨false, rfl, fun h => (Bool.noConfusion h), fun _ => HNX, own_drewN (unhid HO) nq, below_drewN' (unhid HBEL) nq, (unhid HF).drewN nq, g0, g1, g2, g3, g4, g5, f0⟩
                    · have a0 : (z.topic == topic) = true := by simpa using w0
                      have a1 : (z.dir == dir) = true := by simpa using w1
                      have a2 : (z.to == (m : Int)) = true := by simpa using w2
                      have a3 : (z.has == x) = true := by simpa using w3
                      have a4 : (z.should == y) = false := by simpa using e
                      have HE := hid e
                      have HNY := hid (show gpRun topic dir out0.length HS2 MS out0 (m + 1) = o ++ [⟨topic, dir, m, m + 1, x, y⟩] from by rw [unhid HSC]; exact rgpStep_push (unhid HXY) (fun g hg => by rw [unhid HLA] at hg; injection hg with hg; subst hg; exact fun h => unhid HE h.2.2.2.2))
                      clear w0 w1 w2 w3 e
                      have HNX := unhid HNY
                      go_wp2_with fail
                      go_quiet (fail)
                      go_wp2_with fail
                      go_meet
                      case rel => exact ⟨false, rfl, fun h => (Bool.noConfusion h), fun _ => HNX, own_drewN (unhid HO) nq, below_drewN' (unhid HBEL) nq, (unhid HF).drewN nq, g0, g1, g2, g3, g4, g5, f0⟩
                    · have a0 : (z.topic == topic) = true := by simpa using w0
                      have a1 : (z.dir == dir) = true := by simpa using w1
                      have a2 : (z.to == (m : Int)) = true := by simpa using w2
                      have a3 : (z.has == x) = true := by simpa using w3
                      have a4 : (z.should == y) = true := by simpa using w4
                      have HNY := hid (show ∃ q z, o.length = q + 1 ∧ o[q]? = some z ∧ z.to = (m : Int) ∧ gpRun topic dir out0.length HS2 MS out0 (m + 1) = o.set q z.up from ⟨q, z, unhid HQ, unhid HZE, w2, by rw [unhid HSC]; exact rgpStep_inc (unhid HXY) (unhid HQ) (unhid HZE) w0 w1 w2 w3 w4⟩)
                      clear w0 w1 w2 w3 w4
                      have HNX := unhid HNY
                      go_wp2_with fail
                      go_quiet (fail)
                      go_wp2_with fail
                      go_meet
                      case rel => exact ⟨true, rfl, fun _ => HNX, fun h => (Bool.noConfusion h), own_drewN (unhid HO) nq, below_drewN' (unhid HBEL) nq, (unhid HF).drewN nq, g0, g1, g2, g3, g4, g5, f0⟩
                  · have := decide_eq_false (show ¬ ((0 : Int) < (o.length : Int)) by omega)
                    have HNL := hid (show o = [] from List.eq_nil_of_length_eq_zero (by omega))
                    have HNY := hid (show gpRun topic dir out0.length HS2 MS out0 (m + 1) = o ++ [⟨topic, dir, m, m + 1, x, y⟩] from by rw [unhid HSC]; exact rgpStep_push (unhid HXY) (fun g hg h => by rw [unhid HNL] at hg; cases hg))
                    have HNX := unhid HNY
                    go_wp2_with fail
                    go_quiet (fail)
                    go_wp2_with fail
                    go_meet
                    case rel => exact ⟨false, rfl, fun h => (Bool.noConfusion h), fun _ => HNX, own_drewN (unhid HO) nq, below_drewN' (unhid HBEL) nq, (unhid HF).drewN nq, g0, g1, g2, g3, g4, g5, f0⟩
                case rest =>
                  clear g0 g1 g2 g3 g4 g5 f0 HO HF HBEL hyx hwy
                  obtain ⟨tb, rfl, hT, hN, hOz, hBz, hFz, g0, g1, g2, g3, g4, g5, f0⟩ := hcut
                  have HO := hid hOz
                  have HF := hid hFz
                  clear hOz hFz
                  cases tb with
                  | true =>
                    obtain ⟨q1, z1, hq9, hz9, hto, HN9⟩ := hT rfl
                    have HNX := hid HN9
                    have HZ9 := hid hz9
                    have HQ := hid hq9
                    have hto' := hid hto
                    clear HN9 hT hN hto hz9
                    obtain ⟨g, cg, hvv, hbg, hgs, hcells⟩ := own_some (unhid HO) (by omega)
                    injection hvv with hv1 hv2 hv3
                    subst hv1 hv3
                    have hq1 : IntKind.i64.wrap ((o.length : Int) - 1) = (o.length : Int) - 1 := IntWalk.i64_in _ (by omega)
                    have hq2 : (0 : Int) ≤ (o.length : Int) - 1 := by omega
                    have hq3 : ((o.length : Int) - 1).toNat = q1 := by omega
                    have hq4 : (o.length : Int) - 1 < (o.length : Int) := by omega
                    clear hq9
                    have t3 : wc.cell? ⟨g, q1 * 6 + 3, none⟩ = some (.int .i64 (o[q1]'(by have := unhid HQ; omega)).to) := hcells _ _ (gps_at' (by have := unhid HQ; omega) 3 (by omega))
                    have tf := (unhid HO).frozenAt (q1 * 6 + 3)
                    have HSET := hid (gps_set o q1 (by have := unhid HQ; omega))
                    have e9 : z1 = o[q1]'(by have := unhid HQ; omega) := by have h := unhid HZ9; rw [List.getElem?_eq_getElem (by have := unhid HQ; omega)] at h; injection h with h; exact h.symm
                    rw [← e9] at t3 HSET
                    have E9 := hid e9
                    clear hcells e9
                    have hk2 : -9223372036854775808 ≤ z1.to + 1 ∧ z1.to + 1 ≤ 9223372036854775807 := by have := unhid hto'; omega
                    go_wp2_with fail
                    go_roundw
                    case rel =>
                      have h9 := (unhid HO).stored (q1 * 6 + 3) (.int .i64 (z1.to + 1))
                      refine ⟨m + 1, o.set q1 z1.up, some ⟨g, 0, none⟩, c6, by omega, by go_num, by rw [List.length_set], (unhid HNX).symm, ?_, Below.setCell hBz hbg _, ?_⟩
                      · rw [List.length_set, ← unhid HSET]; exact h9.1
                      · rw [List.length_set]; exact (unhid HF).stored rfl _ _
                    case measure => simp [intOf]; omega
                  | false =>
                    have HNX := hid (hN rfl)
                    clear hN hT
                    have hlz := lt_of_cell' g0
                    go_wp2_with (at_builtin; refine wpList_append_lies _ rfl _ _ 54 rfl w1.heap.size 104 i0 (.agg #[.int .i64 0, .int .i64 0, .int .i64 0, .int .i64 0, .int .i64 0, .int .i64 0]) 6 48 Try.underlying54 hi hz0 hz1 hz2 rfl (by decide) _ _ _ rfl ((unhid HO).alloc _) ⟨wc.heap.size, 0, none⟩ 1 1 [.int .i64 topic, .int .i64 dir, .int .i64 m, .int .i64 (m + 1), .int .i64 x, .int .i64 y] rfl rfl (World.news_of_block (cs := #[.int .i64 topic, .int .i64 dir, .int .i64 m, .int .i64 (m + 1), .int .i64 x, .int .i64 y]) (t := 104) (fr := (0, 0)) (heap_alloc_new wc _)) ?c2 (by decide) ?c3 ?c4 ?c5 (wc.heap.size + 1) (by simp) ?_)
                    all_goals try (first | (unfold maxLen; omega) | omega | (have := hBz.size; omega) | exact ⟨rfl, rfl, rfl, rfl, rfl, rfl⟩ | (intro u hu; simp at hu; rcases hu with rfl | rfl | rfl | rfl | rfl | rfl <;> rfl))
                    intro g8 c8 w3 hown3 hg3 hat3 hlt8
                    have hb3 : Below w1.heap.size w1 w3 := by
                      refine Below.grown (hBz.alloc hBz.size _) hg3 (by have := hBz.size; simp; omega) (fun i hi => ?_)
                      rcases Nat.lt_or_ge i w1.heap.size with h | h
                      · exact absurd hi (own_ne (unhid HO) (Or.inl h))
                      · exact h
                    have HF3 := hid ((unhid HF).append (v2 := .slice (some ⟨g8, 0, none⟩) (o.length + 1) c8) hg3 (fun g hg => by
                      have e : g = g8 := by simpa [Value.ownBlock] using hg.symm
                      subst e
                      rcases hat3 with h | h
                      · exact .inl h
                      · exact .inr (by omega)))
                    have HO3 := hid hown3
                    clear hown3 hg3 g0 g1 g2 g3 g4 g5 hat3 hlt8
                    go_wp2_with fail
                    go_roundw
                    case rel =>
                      refine ⟨m + 1, o ++ [⟨topic, dir, m, m + 1, x, y⟩], some ⟨g8, 0, none⟩, c8, by omega, by go_num, by simp, (unhid HNX).symm, ?_, hb3, ?_⟩
                      · have h5 := unhid HO3
                        rw [show (o ++ [(⟨topic, dir, m, m + 1, x, y⟩ : Gp)]).length = o.length + 1 from by simp, show gps (o ++ [(⟨topic, dir, m, m + 1, x, y⟩ : Gp)]) = gps o ++ [.int .i64 topic, .int .i64 dir, .int .i64 m, .int .i64 (m + 1), .int .i64 x, .int .i64 y] from by simp [gps, gpC]]
                        exact h5
                      · rw [show (o ++ [(⟨topic, dir, m, m + 1, x, y⟩ : Gp)]).length = o.length + 1 from by simp]
                        exact unhid HF3
                    case measure => simp [intOf]; omega
            · obtain rfl : n = m := by omega
              have HOF := hid (show o = gapsP n js l ed hour (2 * k + (j + 1)) from by rw [show 2 * k + (j + 1) = 2 * k + j + 1 from rfl, unhid HSU]; exact unhid HOE)
              clear ho
              go_wp2_with fail
              go_roundw
              case rel =>
                refine ⟨j + 1, A6, c6, by omega, by rw [unhid HDI]; go_num, by rw [unhid HOF], ?_, hbel⟩
                have := unhid HO
                rw [unhid HOF] at this
                exact this
              case measure => simp [intOf]; omega
        · obtain rfl : j = 2 := by omega
          go_wp2_with fail
          go_roundw
          case rel => exact ⟨k + 1, A6, c6, by omega, by go_num, rfl, unhid HO, hbel⟩
          case measure => simp [intOf]; omega
    · obtain rfl : k = 2 := by omega
      obtain ⟨A7, c7, hvv, hrd, -⟩ := own_slice (unhid HO)
      injection hvv with hv1 hv2 hv3
      subst hv1 hv3
      have HRD := hid hrd
      clear hrd HO
      go_wp2_with fail
      go_ret
      first
        | exact ⟨A6, c6, rfl, unhid HRD, hbw1.trans (hbel.mono hbw1.size)⟩
        | exact ⟨A6, ⟨c6, rfl⟩, unhid HRD, hbw1.trans (hbel.mono hbw1.size)⟩

end Go.Proofs.Ytmpngoejnmlmbaa
