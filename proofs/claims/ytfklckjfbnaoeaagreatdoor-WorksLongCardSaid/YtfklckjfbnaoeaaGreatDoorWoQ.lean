/-
  The price of a line: package works.
-/
import Derived.Test.YtfklckjfbnaoeaaGreatDoorWoA
import Derived.Test.YtfklckjfbnaoeaaGreatDoorWoB
import Derived.Test.YtfklckjfbnaoeaaGreatDoorWoC
set_option linter.unusedSimpArgs false
set_option linter.unusedVariables false
namespace Go.Proofs.YtfklckjfbnaoeaaGreatDoor
open Go.RowKit

theorem offK_yes {l : List Stp} {n : Int} {k : Nat} (h : (l.getD k ⟨0, 0⟩).count ≤ n) : offK l n (k + 1) = (l.getD k ⟨0, 0⟩).mille := if_pos h
theorem offK_no {l : List Stp} {n : Int} {k : Nat} (h : ¬ (l.getD k ⟨0, 0⟩).count ≤ n) : offK l n (k + 1) = offK l n k := if_neg h
theorem dotsK_at (f : Fc) (q : Nat) (h : q < 9) : (areasL f)[1 + q]? = some (areaP f ((q + 1 : Nat) : Int)) := by
  rw [areasL_at f (v := 1 + q) (by omega), Nat.add_comm]

set_option maxHeartbeats 4000000 in
set_option maxRecDepth 100000 in
theorem quote_calls (p : Prc) (A : Option Addr) (c : Nat) (t : Ty) (n : Int) (w : World) (hg : Gl w) (hst : StpsOk w A p.steps) (hp : prcB p = true) (ht : tyB t = true) (hn : 1 ≤ n ∧ n ≤ 10000) :
    Calls Tryz.prog 83 #[.agg #[.int .i64 p.dot, .int .i64 p.scr, .slice A p.steps.length c], .agg #[.int .i64 t.code, .int .i64 t.grade, .int .i64 t.frm, .int .i64 t.to, .string (SB t.text)], .int .i64 n] w fun e w' => e = .returned (.int .i64 (quoP p (facP t) n)) ∧ Below w.heap.size w w' := by
  have hfe : (faceE t).2 = true := by unfold tyB at ht; rw [Bool.and_eq_true] at ht; exact ht.2
  have hf : fcB (facP t) = true := (faceE_yes hfe).2.2
  have hb0 := below_alloc w (.cells #[.int .i64 p.dot, .int .i64 p.scr, .slice A p.steps.length c] 72)
  have HP := hid ((PrAt.new w c hst).below (below_alloc _ (.cells #[.int .i64 t.code, .int .i64 t.grade, .int .i64 t.frm, .int .i64 t.to, .string (SB t.text)] 67)))
  have hT := TyAt.new (w.alloc (.cells #[.int .i64 p.dot, .int .i64 p.scr, .slice A p.steps.length c] 72)) t
  rw [World.size_alloc] at hT
  have HT := hid hT
  have HB := hid (below_alloc' hb0 (.cells #[.int .i64 t.code, .int .i64 t.grade, .int .i64 t.frm, .int .i64 t.to, .string (SB t.text)] 67))
  have HG := hid (hg.below (below_alloc' hb0 (.cells #[.int .i64 t.code, .int .i64 t.grade, .int .i64 t.frm, .int .i64 t.to, .string (SB t.text)] 67)))
  have HF := hid hf
  have HAR := hid (fun (B1 : Option Addr) (k1 : Nat) (W : World) h => pareas_calls (facP t) B1 k1 W h hf)
  have HSC := hid (fun (B1 : Option Addr) (k1 : Nat) (W : World) h => pscreens_calls (facP t) B1 k1 W h hf)
  have HONE := hid (one_parts hp hf)
  have HQUO := hid (quo_parts hp hf hn)
  have HOFF := hid (offK_bounds hp n p.steps.length (Nat.le_refl _))
  have HDB := hid (dotsK_bounds hf)
  have HAB := hid (fun v => area_bounds hf v)
  obtain ⟨n0, n1⟩ := hn
  obtain ⟨⟨p0, p1⟩, ⟨r0, r1⟩, hl10, -⟩ := prcB_parts hp
  have hsl := screensK_le (facP t) 8
  clear hfe hf hb0 hT hg hst hp ht
  go_enter Tryz.func83, Tryz.ntmps83
  go_upto_region 1 with (fail)
  change Code.wp _ _ _ _ ((w.alloc (.cells #[.int .i64 p.dot, .int .i64 p.scr, .slice A p.steps.length c] 72)).alloc (.cells #[.int .i64 t.code, .int .i64 t.grade, .int .i64 t.frm, .int .i64 t.to, .string (SB t.text)] 67))
  generalize (w.alloc (.cells #[.int .i64 p.dot, .int .i64 p.scr, .slice A p.steps.length c] 72)).alloc (.cells #[.int .i64 t.code, .int .i64 t.grade, .int .i64 t.frm, .int .i64 t.to, .string (SB t.text)] 67) = W at *
  obtain ⟨s0, s1, s2, s3, s4⟩ := (unhid HT).cells
  go_wp2_with fail
  refine (faceOf_calls t W (unhid HG)).mono ?_
  rintro e w1 ⟨hb, A1, c1, rfl, hi⟩
  have HP := hid ((unhid HP).below hb)
  have HB := hid ((unhid HB).trans (hb.mono (unhid HB).size))
  have HI := hid hi
  clear hb hi s0 s1 s2 s3 s4 HT HG
  obtain ⟨g, hgd⟩ : ∃ x, x = facP t := ⟨_, rfl⟩
  rw [← hgd] at HI HAR HSC HONE HQUO HDB HAB hsl HF ⊢
  have HGD := hid hgd
  clear hgd
  go_upto_region 2 with (fail)
  change Code.wp _ _ _ _ (w1.alloc (.cells #[.int .i64 g.shape, .int .i64 g.size, .int .i64 g.height, .slice A1 g.items.length c1] 214))
  have hb1 := below_alloc w1 (.cells #[.int .i64 g.shape, .int .i64 g.size, .int .i64 g.height, .slice A1 g.items.length c1] 214)
  have HP := hid ((unhid HP).below hb1)
  have HB := hid ((unhid HB).trans (hb1.mono (unhid HB).size))
  have HE := hid (FaceAt.new w1 c1 (unhid HI))
  generalize w1.alloc (.cells #[.int .i64 g.shape, .int .i64 g.size, .int .i64 g.height, .slice A1 g.items.length c1] 214) = w2 at *
  generalize w1.heap.size = E at *
  clear hb1 HI
  obtain ⟨e0, e1, e2, e3⟩ := (unhid HE).cells
  go_wp2_with fail
  refine ((unhid HAR) A1 c1 w2 (unhid HE).ok).mono ?_
  rintro e w3 ⟨rfl, hb⟩
  have HP := hid ((unhid HP).below hb)
  have HB := hid ((unhid HB).trans (hb.mono (unhid HB).size))
  have HE := hid ((unhid HE).below hb)
  clear hb e0 e1 e2 e3 HAR
  have HZ := hid (heap_alloc_new w3 (.cells #[.int .i64 0, .int .i64 0, .int .i64 0, .int .i64 0, .int .i64 0, .int .i64 0, .int .i64 0, .int .i64 0, .int .i64 0, .int .i64 0] 217))
  have hbD := below_setRow (below_alloc w3 (.cells #[.int .i64 0, .int .i64 0, .int .i64 0, .int .i64 0, .int .i64 0, .int .i64 0, .int .i64 0, .int .i64 0, .int .i64 0, .int .i64 0] 217)) (Nat.le_refl _) (ints (areasL g)).toArray
  have HP := hid ((unhid HP).below hbD)
  have HB := hid ((unhid HB).trans (hbD.mono (unhid HB).size))
  have HE := hid ((unhid HE).below hbD)
  have HD := hid (setRow_heap _ _ _ (ints (areasL g)).toArray _ _ (unhid HZ))
  clear hbD
  go_wp2_with (refine wpList_store_row rfl 217 (.tmp 9) (.tmp 28) rfl w3.heap.size (ints (areasL g)).toArray rfl rfl 217 _ (unhid HZ) (arr_size (areasL_len g)) (by simp [areasL_len]) (arr_one _) ?_)
  generalize World.setRow _ w3.heap.size (ints (areasL g)).toArray = Wb at *
  generalize w3.heap.size = D at *
  go_loopw [32, 11] (fun iv dv wr => ∃ q : Nat, q ≤ 9 ∧ iv = .int .i64 q ∧ dv = .int .i64 (dotsK g q) ∧ wr = Wb) (fun iv _ _ => 9 - (intOf iv).toNat)
  case atStart => exact ⟨0, Nat.zero_le _, rfl, rfl, rfl⟩
  case round =>
    obtain ⟨q, hq, rfl, rfl, rfl⟩ := hrel
    by_cases hlt : q < 9
    · have m0 := rowd_cell (unhid HD) (dotsK_at g q hlt)
      have hq9 : (q : Int) < 9 := by omega
      obtain ⟨x0, x1⟩ := (unhid HDB) q
      obtain ⟨y0, y1⟩ := (unhid HAB) ((q + 1 : Nat) : Int)
      have HS := hid (show dotsK g (q + 1) = dotsK g q + areaP g ((q + 1 : Nat) : Int) from rfl)
      obtain ⟨dd, hdd⟩ : ∃ x, x = dotsK g q := ⟨_, rfl⟩
      obtain ⟨ar, har⟩ : ∃ x, x = areaP g ((q + 1 : Nat) : Int) := ⟨_, rfl⟩
      rw [← hdd] at x0 x1 HS ⊢
      rw [← har] at m0 y0 y1 HS
      clear hdd har
      go_wp2_with fail
      go_roundw
      case rel => exact ⟨q + 1, by omega, by go_num, by rw [unhid HS], by first | rfl | trivial⟩
      case measure => simp [intOf]; omega
    · obtain rfl : q = 9 := by omega
      obtain ⟨e0, e1, e2, e3⟩ := (unhid HE).cells
      obtain ⟨s0, s1, s2⟩ := (unhid HP).cells
      go_wp2_with fail
      refine ((unhid HSC) A1 c1 wr (unhid HE).ok).mono ?_
      rintro e w4 ⟨hb, A3, c3, rfl, -⟩
      have HP := hid ((unhid HP).below hb)
      have HB := hid ((unhid HB).trans (hb.mono (unhid HB).size))
      clear hb e0 e1 e2 e3 s0 s1 s2 HE HD HSC HZ
      obtain ⟨s0, s1, s2⟩ := (unhid HP).cells
      obtain ⟨⟨o0, o1⟩, o2, o3⟩ := unhid HONE
      have HO := hid (show dotsK g 9 * p.dot + ((screensK g 8).length : Int) * p.scr = oneP p g from rfl)
      obtain ⟨d0, d1⟩ := (unhid HDB) 9
      obtain ⟨dd, hdd⟩ : ∃ x, x = dotsK g 9 := ⟨_, rfl⟩
      obtain ⟨sl, hsl2⟩ : ∃ x, x = (screensK g 8).length := ⟨_, rfl⟩
      rw [← hdd] at o0 o1 d0 d1 HO ⊢
      rw [← hsl2] at o2 o3 hsl HO ⊢
      clear hdd hsl2
      go_upto_region 11 with (fail)
      rw [unhid HO]
      obtain ⟨⟨u0, u1⟩, u2, u3⟩ := unhid HQUO
      have HRES := hid (show n * oneP p g * (1000 - offK p.steps n p.steps.length) / 1000 = quoP p g n from rfl)
      have u2 : 0 ≤ n * oneP p g * (1000 - offK p.steps n p.steps.length) := u2
      have u3 : n * oneP p g * (1000 - offK p.steps n p.steps.length) ≤ 3600080000000000000 := u3
      obtain ⟨one, hone⟩ : ∃ x, x = oneP p g := ⟨_, rfl⟩
      rw [← hone] at u0 u1 u2 u3 HRES ⊢
      have HU := hid (⟨u2, u3⟩ : 0 ≤ n * one * (1000 - offK p.steps n p.steps.length) ∧ n * one * (1000 - offK p.steps n p.steps.length) ≤ 3600080000000000000)
      clear hone o0 o1 o2 o3 d0 d1 u2 u3 s0 s1
      go_wp2_with fail
      clear s2
      go_loopw [58, 17] (fun iv ov wr => ∃ k : Nat, k ≤ p.steps.length ∧ iv = .int .i64 k ∧ ov = .int .i64 (offK p.steps n k) ∧ PrAt wr w.heap.size p A c ∧ Below w.heap.size w wr) (fun iv _ _ => p.steps.length - (intOf iv).toNat)
      case atStart => exact ⟨0, Nat.zero_le _, rfl, rfl, unhid HP, unhid HB⟩
      case round =>
        obtain ⟨k, hk, rfl, rfl, hp, hb⟩ := hrel
        have HP := hid hp
        have HB := hid hb
        clear hp hb
        by_cases hlt : k < p.steps.length
        · obtain ⟨b, off, rfl, hb, hc⟩ := (unhid HP).ok.rd (stps_ne hlt)
          obtain ⟨m0, m1⟩ := stps_cells hc hlt
          have hki : (k : Int) < (p.steps.length : Int) := by omega
          have HYS := hid (fun h => offK_yes (l := p.steps) (n := n) (k := k) h)
          have HNS := hid (fun h => offK_no (l := p.steps) (n := n) (k := k) h)
          obtain ⟨cn, hcn⟩ : ∃ x, x = (p.steps.getD k ⟨0, 0⟩).count := ⟨_, rfl⟩
          obtain ⟨ml, hml⟩ : ∃ x, x = (p.steps.getD k ⟨0, 0⟩).mille := ⟨_, rfl⟩
          rw [← hcn] at m0 HYS HNS
          rw [← hml] at m1 HYS
          obtain ⟨ov, hov⟩ : ∃ x, x = offK p.steps n k := ⟨_, rfl⟩
          rw [← hov] at HNS ⊢
          clear hcn hml hov hb hc
          go_upto_region 15 with (fail)
          change Code.wp _ _ _ _ (wr.alloc (.cells #[.int .i64 cn, .int .i64 ml] 69))
          have hb1 := below_alloc wr (.cells #[.int .i64 cn, .int .i64 ml] 69)
          have HP := hid ((unhid HP).below hb1)
          have HB := hid ((unhid HB).trans (hb1.mono (unhid HB).size))
          have hn2 := heap_alloc_new wr (.cells #[.int .i64 cn, .int .i64 ml] 69)
          generalize wr.alloc (.cells #[.int .i64 cn, .int .i64 ml] 69) = w2 at *
          generalize wr.heap.size = IB at *
          have t0 := cell_of_row _ IB 0 _ _ _ hn2
          have t1 := cell_of_row _ IB 1 _ _ _ hn2
          simp at t0 t1
          clear hb1 hn2 m0 m1
          by_cases hle : cn ≤ n
          · have HS := hid ((unhid HYS) hle)
            go_wp2_with fail
            go_roundw
            case rel => exact ⟨k + 1, by omega, by go_num, by rw [unhid HS], unhid HP, unhid HB⟩
            case measure => simp [intOf]; omega
          · have HS := hid ((unhid HNS) hle)
            go_wp2_with fail
            go_roundw
            case rel => exact ⟨k + 1, by omega, by go_num, by rw [unhid HS], unhid HP, unhid HB⟩
            case measure => simp [intOf]; omega
        · obtain rfl : k = p.steps.length := by omega
          obtain ⟨v0, v1⟩ := unhid HU
          obtain ⟨w0, w1⟩ := unhid HOFF
          obtain ⟨ov, hov⟩ : ∃ x, x = offK p.steps n p.steps.length := ⟨_, rfl⟩
          rw [← hov] at v0 v1 w0 w1 HRES ⊢
          clear hov
          go_wp2_with fail
          go_ret
          exact ⟨reti (by rw [← unhid HGD]; exact unhid HRES), unhid HB⟩

end Go.Proofs.YtfklckjfbnaoeaaGreatDoor
