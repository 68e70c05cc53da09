/-
  symMerge: the ways by the middle. slices.SortStableFunc at records: the order by hour. slices.SortStableFunc at fewer than 40 records that stand in their order.
-/
import Derived.Test.YtegghimjmbgghaaGreatBkSo
set_option linter.unusedSimpArgs false
set_option linter.unusedVariables false
namespace Go.Proofs.YtegghimjmbgghaaGreat
open Go.RowKit

section
open Go.RowKit Go.Shelf Go.Sort

set_option maxHeartbeats 8000000 in
set_option maxRecDepth 100000 in
theorem mg3_calls {w0 : World} {blk off : Nat} {d0 : Array Rc} (R : RowK rcC 14 w0 blk off d0) {Rl : Rc → Rc → Prop} (hRl : Strict Rl) (cap : Nat) (hsz : d0.size ≤ 1000000) (N : Nat) (ih : ∀ (a m b : Nat) (ai mi bi : Int) (d : Array Rc) (w : World), b - a ≤ N → ai = (a : Int) → mi = (m : Int) → bi = (b : Int) → SWK rcC 14 w0 blk off d w → d.size = d0.size → a < m → m < b → b ≤ d0.size → MrgIn Rl hrI d a m b →
    Calls Tryz.prog 140 #[.slice (some ⟨blk, off, none⟩) d0.size cap, .int .i64 ai, .int .i64 mi, .int .i64 bi, .func (.func 83) #[] #[]] w fun e w' => MgPost w0 blk off Rl a b d e w')
    (a m b : Nat) (d : Array Rc) (w : World) (hN : b - a ≤ N + 1) (h : SWK rcC 14 w0 blk off d w) (hs : d.size = d0.size) (ham : a < m) (hmb : m < b) (hb : b ≤ d0.size) (hin : MrgIn Rl hrI d a m b) (h1 : ¬ m = a + 1) (h2 : ¬ b = m + 1) (mid : Nat) (hmid : mid = (a + b) / 2) (hmm : mid < m) :
    Calls Tryz.prog 140 #[.slice (some ⟨blk, off, none⟩) d0.size cap, .int .i64 (a : Int), .int .i64 (m : Int), .int .i64 (b : Int), .func (.func 83) #[] #[]] w fun e w' => MgPost w0 blk off Rl a b d e w' := by
  have mixed : Tryz.prog.follows .mixedOrders = true := by kernel_rfl
  have HR := hid R
  have HRL := hid hRl
  have HK := hid h
  have HIN := hid hin
  have IH := hid ih
  have HSZ := hid (show d0.size ≤ 1000000 ∧ d.size = d0.size ∧ b ≤ d0.size ∧ a < m ∧ m < b ∧ b - a ≤ N + 1 from ⟨hsz, hs, hb, ham, hmb, hN⟩)
  clear h hin ih
  go_enter Tryz.func140, Tryz.ntmps140
  have q1 : ((m : Int) - (a : Int) == 1) = false := beq_eq_false_iff_ne.2 (by omega)
  have r1 : IntKind.i64.wrap ((m : Int) - (a : Int)) = (m : Int) - (a : Int) := by rw [IntKind.wrap_i64]; omega
  have q2 : ((b : Int) - (m : Int) == 1) = false := beq_eq_false_iff_ne.2 (by omega)
  have r2 : IntKind.i64.wrap ((b : Int) - (m : Int)) = (b : Int) - (m : Int) := by rw [IntKind.wrap_i64]; omega
  have HMI := hid hmid
  have hM6 : mid * 2 ≤ a + b ∧ a + b ≤ mid * 2 + 1 := by omega
  clear hmid
  go_upto_region 25 with (fail)
  have hq := half_u64 (unhid HMI)
  rw [hq]
  clear hq
  have HMID := hid (show Mid a m b mid (mid + m - b) (mid) from ⟨by omega, by omega, by omega, by omega, .inl ⟨hmm, by omega, rfl⟩⟩)
  have hmi : (m : Int) > (mid : Int) := by omega
  go_upto_region 33 with (fail)
  clear q1 r1 q2 r2 hmi
  go_loopw [20, 21] (fun iv jv wr => ∃ (i j : Nat), iv = .int .i64 i ∧ jv = .int .i64 j ∧ Cut (tst3 d (mid + m - 1)) (mid + m - b) (mid) i j ∧ SWK rcC 14 w0 blk off d wr) (fun iv jv _ => (intOf jv).toNat - (intOf iv).toNat)
  case atStart => exact ⟨mid + m - b, mid, by first | rfl | (congr 1; omega), rfl, Cut.start (by omega), unhid HK⟩
  case round =>
    clear HK
    obtain ⟨i, j, rfl, rfl, hcut, hk⟩ := hrel
    have HCUT := hid hcut
    have HK := hid hk
    have hb3 : (mid + m - b) ≤ i ∧ i ≤ j ∧ j ≤ (mid) := ⟨hcut.li, hcut.ij, hcut.jh⟩
    clear hcut hk
    by_cases hlt : i < j
    · have hlti : (i : Int) < (j : Int) := by omega
      go_upto_region 35 with (fail)
      obtain ⟨h, hh⟩ : ∃ h, h = (i + j) / 2 := ⟨_, rfl⟩
      have hq := half_u64 hh
      rw [hq]
      have HB3 := hid (show i ≤ h ∧ h < j from by omega)
      have hb4 : i ≤ h ∧ h < j := unhid HB3
      clear hq hh
      by_cases hp : hrI d[mid + m - 1 - h]! d[h]! < 0
      · have HN := hid ((unhid HCUT).left ((unhid HIN).monoM (unhid HRL) (unhid HMID)) (by omega) (by omega) (fun hn => hn hp))
        have eax : ((mid : Int) + (m : Int) - 1 - (h : Int)).toNat = mid + m - 1 - h := by omega
        have pax : (0 : Int) ≤ (mid : Int) + (m : Int) - 1 - (h : Int) := by omega
        have bax : (mid : Int) + (m : Int) - 1 - (h : Int) < (d0.size : Int) := by omega
        have rax : IntKind.i64.wrap ((mid : Int) + (m : Int) - 1 - (h : Int)) = (mid : Int) + (m : Int) - 1 - (h : Int) := by rw [IntKind.wrap_i64]; omega
        have eay : ((h : Int)).toNat = h := by omega
        have pay : (0 : Int) ≤ (h : Int) := by omega
        have bay : (h : Int) < (d0.size : Int) := by omega
        have ray : IntKind.i64.wrap ((h : Int)) = (h : Int) := by rw [IntKind.wrap_i64]; omega
        have pax2 : (h : Int) ≤ (mid : Int) + (m : Int) - 1 := by omega
        obtain ⟨x, hx⟩ : ∃ x, x = d[mid + m - 1 - h]! := ⟨_, rfl⟩
        obtain ⟨y, hy⟩ : ∃ y, y = d[h]! := ⟨_, rfl⟩
        have HSF := hid (show ∀ w', SWK rcC 14 w0 blk off d w' → (w'.cell? ⟨blk, off + (mid + m - 1 - h) * 14, none⟩ = some (.int .i64 x.tab) ∧ w'.cell? ⟨blk, off + (mid + m - 1 - h) * 14 + 1, none⟩ = some (.int .i64 x.num) ∧ w'.cell? ⟨blk, off + (mid + m - 1 - h) * 14 + 2, none⟩ = some (.int .i64 x.hour) ∧ w'.cell? ⟨blk, off + (mid + m - 1 - h) * 14 + 3, none⟩ = some (.int .i64 x.sign) ∧ w'.cell? ⟨blk, off + (mid + m - 1 - h) * 14 + 4, none⟩ = some (.int .i64 x.fld) ∧ w'.cell? ⟨blk, off + (mid + m - 1 - h) * 14 + 5, none⟩ = some (.int .i64 x.val) ∧ w'.cell? ⟨blk, off + (mid + m - 1 - h) * 14 + 6, none⟩ = some (.int .i64 x.s0) ∧ w'.cell? ⟨blk, off + (mid + m - 1 - h) * 14 + 7, none⟩ = some (.int .i64 x.s1) ∧ w'.cell? ⟨blk, off + (mid + m - 1 - h) * 14 + 8, none⟩ = some (.int .i64 x.s2) ∧ w'.cell? ⟨blk, off + (mid + m - 1 - h) * 14 + 9, none⟩ = some (.int .i64 x.s3) ∧ w'.cell? ⟨blk, off + (mid + m - 1 - h) * 14 + 10, none⟩ = some (.int .i64 x.s4) ∧ w'.cell? ⟨blk, off + (mid + m - 1 - h) * 14 + 11, none⟩ = some (.int .i64 x.s5) ∧ w'.cell? ⟨blk, off + (mid + m - 1 - h) * 14 + 12, none⟩ = some (.int .i64 x.s6) ∧ w'.cell? ⟨blk, off + (mid + m - 1 - h) * 14 + 13, none⟩ = some (.int .i64 x.s7)) ∧ (w'.cell? ⟨blk, off + (h) * 14, none⟩ = some (.int .i64 y.tab) ∧ w'.cell? ⟨blk, off + (h) * 14 + 1, none⟩ = some (.int .i64 y.num) ∧ w'.cell? ⟨blk, off + (h) * 14 + 2, none⟩ = some (.int .i64 y.hour) ∧ w'.cell? ⟨blk, off + (h) * 14 + 3, none⟩ = some (.int .i64 y.sign) ∧ w'.cell? ⟨blk, off + (h) * 14 + 4, none⟩ = some (.int .i64 y.fld) ∧ w'.cell? ⟨blk, off + (h) * 14 + 5, none⟩ = some (.int .i64 y.val) ∧ w'.cell? ⟨blk, off + (h) * 14 + 6, none⟩ = some (.int .i64 y.s0) ∧ w'.cell? ⟨blk, off + (h) * 14 + 7, none⟩ = some (.int .i64 y.s1) ∧ w'.cell? ⟨blk, off + (h) * 14 + 8, none⟩ = some (.int .i64 y.s2) ∧ w'.cell? ⟨blk, off + (h) * 14 + 9, none⟩ = some (.int .i64 y.s3) ∧ w'.cell? ⟨blk, off + (h) * 14 + 10, none⟩ = some (.int .i64 y.s4) ∧ w'.cell? ⟨blk, off + (h) * 14 + 11, none⟩ = some (.int .i64 y.s5) ∧ w'.cell? ⟨blk, off + (h) * 14 + 12, none⟩ = some (.int .i64 y.s6) ∧ w'.cell? ⟨blk, off + (h) * 14 + 13, none⟩ = some (.int .i64 y.s7)) from fun w' hk => ⟨swk_cells14 (i := mid + m - 1 - h) hk (unhid HR) (by omega) (by omega) hx, swk_cells14 (i := h) hk (unhid HR) (by omega) (by omega) hy⟩)
        have hd : decide (hrI x y < 0) = true := decide_eq_true (by rw [hx, hy]; exact hp)
        clear hx hy hp
        go_wp2_with fail
        refine wp_region_noPanic ?_
        refine wp_region_E (S := fun w' => (w'.cell? ⟨blk, off + (mid + m - 1 - h) * 14, none⟩ = some (.int .i64 x.tab) ∧ w'.cell? ⟨blk, off + (mid + m - 1 - h) * 14 + 1, none⟩ = some (.int .i64 x.num) ∧ w'.cell? ⟨blk, off + (mid + m - 1 - h) * 14 + 2, none⟩ = some (.int .i64 x.hour) ∧ w'.cell? ⟨blk, off + (mid + m - 1 - h) * 14 + 3, none⟩ = some (.int .i64 x.sign) ∧ w'.cell? ⟨blk, off + (mid + m - 1 - h) * 14 + 4, none⟩ = some (.int .i64 x.fld) ∧ w'.cell? ⟨blk, off + (mid + m - 1 - h) * 14 + 5, none⟩ = some (.int .i64 x.val) ∧ w'.cell? ⟨blk, off + (mid + m - 1 - h) * 14 + 6, none⟩ = some (.int .i64 x.s0) ∧ w'.cell? ⟨blk, off + (mid + m - 1 - h) * 14 + 7, none⟩ = some (.int .i64 x.s1) ∧ w'.cell? ⟨blk, off + (mid + m - 1 - h) * 14 + 8, none⟩ = some (.int .i64 x.s2) ∧ w'.cell? ⟨blk, off + (mid + m - 1 - h) * 14 + 9, none⟩ = some (.int .i64 x.s3) ∧ w'.cell? ⟨blk, off + (mid + m - 1 - h) * 14 + 10, none⟩ = some (.int .i64 x.s4) ∧ w'.cell? ⟨blk, off + (mid + m - 1 - h) * 14 + 11, none⟩ = some (.int .i64 x.s5) ∧ w'.cell? ⟨blk, off + (mid + m - 1 - h) * 14 + 12, none⟩ = some (.int .i64 x.s6) ∧ w'.cell? ⟨blk, off + (mid + m - 1 - h) * 14 + 13, none⟩ = some (.int .i64 x.s7)) ∧ (w'.cell? ⟨blk, off + (h) * 14, none⟩ = some (.int .i64 y.tab) ∧ w'.cell? ⟨blk, off + (h) * 14 + 1, none⟩ = some (.int .i64 y.num) ∧ w'.cell? ⟨blk, off + (h) * 14 + 2, none⟩ = some (.int .i64 y.hour) ∧ w'.cell? ⟨blk, off + (h) * 14 + 3, none⟩ = some (.int .i64 y.sign) ∧ w'.cell? ⟨blk, off + (h) * 14 + 4, none⟩ = some (.int .i64 y.fld) ∧ w'.cell? ⟨blk, off + (h) * 14 + 5, none⟩ = some (.int .i64 y.val) ∧ w'.cell? ⟨blk, off + (h) * 14 + 6, none⟩ = some (.int .i64 y.s0) ∧ w'.cell? ⟨blk, off + (h) * 14 + 7, none⟩ = some (.int .i64 y.s1) ∧ w'.cell? ⟨blk, off + (h) * 14 + 8, none⟩ = some (.int .i64 y.s2) ∧ w'.cell? ⟨blk, off + (h) * 14 + 9, none⟩ = some (.int .i64 y.s3) ∧ w'.cell? ⟨blk, off + (h) * 14 + 10, none⟩ = some (.int .i64 y.s4) ∧ w'.cell? ⟨blk, off + (h) * 14 + 11, none⟩ = some (.int .i64 y.s5) ∧ w'.cell? ⟨blk, off + (h) * 14 + 12, none⟩ = some (.int .i64 y.s6) ∧ w'.cell? ⟨blk, off + (h) * 14 + 13, none⟩ = some (.int .i64 y.s7))) 13 14 rfl (by kernel_rfl) (by kernel_rfl) ((unhid HSF) _ (unhid HK).drew) ?_
        intro hSE
        have HK := hid (unhid HK).drew
        generalize wr.drew = Wd at *
        (refine WE_take (i := 0) (v := ?_) rfl (by kernel_rfl) (by decide) (by kernel_rfl) (by kernel_rfl) (fun _ _ _ h => h) (by rfl) hSE ?_ ?_; rotate_left; (focus (intro w hSw; (try dsimp only at hSw); go_simp; (try with_reducible rfl))); simp only [Act.put, List.setIfInBounds_toArray, List.set_cons_zero, List.set_cons_succ])
        (refine WE_take (i := 1) (v := ?_) rfl (by kernel_rfl) (by decide) (by kernel_rfl) (by kernel_rfl) (fun _ _ _ h => h) (by rfl) hSE ?_ ?_; rotate_left; (focus (intro w hSw; (try dsimp only at hSw); go_simp; (try with_reducible rfl))); simp only [Act.put, List.setIfInBounds_toArray, List.set_cons_zero, List.set_cons_succ])
        (refine WE_take (i := 2) (v := ?_) rfl (by kernel_rfl) (by decide) (by kernel_rfl) (by kernel_rfl) (fun _ _ _ h => h) (by rfl) hSE ?_ ?_; rotate_left; (focus (intro w hSw; (try dsimp only at hSw); go_simp; (try with_reducible rfl))); simp only [Act.put, List.setIfInBounds_toArray, List.set_cons_zero, List.set_cons_succ])
        (refine WE_take (i := 3) (v := ?_) rfl (by kernel_rfl) (by decide) (by kernel_rfl) (by kernel_rfl) (fun _ _ _ h => h) (by rfl) hSE ?_ ?_; rotate_left; (focus (intro w hSw; (try dsimp only at hSw); go_simp; (try with_reducible rfl))); simp only [Act.put, List.setIfInBounds_toArray, List.set_cons_zero, List.set_cons_succ])
        (refine WE_take (i := 4) (v := ?_) rfl (by kernel_rfl) (by decide) (by kernel_rfl) (by kernel_rfl) (fun _ _ _ h => h) (by rfl) hSE ?_ ?_; rotate_left; (focus (intro w hSw; (try dsimp only at hSw); go_simp; (try with_reducible rfl))); simp only [Act.put, List.setIfInBounds_toArray, List.set_cons_zero, List.set_cons_succ])
        (refine WE_take (i := 5) (v := ?_) rfl (by kernel_rfl) (by decide) (by kernel_rfl) (by kernel_rfl) (fun _ _ _ h => h) (by rfl) hSE ?_ ?_; rotate_left; (focus (intro w hSw; (try dsimp only at hSw); go_simp; (try with_reducible rfl))); simp only [Act.put, List.setIfInBounds_toArray, List.set_cons_zero, List.set_cons_succ])
        (refine WE_take (i := 6) (v := ?_) rfl (by kernel_rfl) (by decide) (by kernel_rfl) (by kernel_rfl) (fun _ _ _ h => h) (by rfl) hSE ?_ ?_; rotate_left; (focus (intro w hSw; (try dsimp only at hSw); go_simp; (try with_reducible rfl))); simp only [Act.put, List.setIfInBounds_toArray, List.set_cons_zero, List.set_cons_succ])
        (refine WE_take (i := 7) (v := ?_) rfl (by kernel_rfl) (by decide) (by kernel_rfl) (by kernel_rfl) (fun _ _ _ h => h) (by rfl) hSE ?_ ?_; rotate_left; (focus (intro w hSw; (try dsimp only at hSw); go_simp; (try with_reducible rfl))); simp only [Act.put, List.setIfInBounds_toArray, List.set_cons_zero, List.set_cons_succ])
        (refine WE_take (i := 8) (v := ?_) rfl (by kernel_rfl) (by decide) (by kernel_rfl) (by kernel_rfl) (fun _ _ _ h => h) (by rfl) hSE ?_ ?_; rotate_left; (focus (intro w hSw; (try dsimp only at hSw); go_simp; (try with_reducible rfl))); simp only [Act.put, List.setIfInBounds_toArray, List.set_cons_zero, List.set_cons_succ])
        (refine WE_take (i := 9) (v := ?_) rfl (by kernel_rfl) (by decide) (by kernel_rfl) (by kernel_rfl) (fun _ _ _ h => h) (by rfl) hSE ?_ ?_; rotate_left; (focus (intro w hSw; (try dsimp only at hSw); go_simp; (try with_reducible rfl))); simp only [Act.put, List.setIfInBounds_toArray, List.set_cons_zero, List.set_cons_succ])
        (refine WE_take (i := 10) (v := ?_) rfl (by kernel_rfl) (by decide) (by kernel_rfl) (by kernel_rfl) (fun _ _ _ h => h) (by rfl) hSE ?_ ?_; rotate_left; (focus (intro w hSw; (try dsimp only at hSw); go_simp; (try with_reducible rfl))); simp only [Act.put, List.setIfInBounds_toArray, List.set_cons_zero, List.set_cons_succ])
        (refine WE_one (i := 11) rfl (by decide) (by kernel_rfl) ?_; intro K hK)
        go_simp
        refine (byHourW_calls x y Wd).mono ?_
        rintro e wz ⟨rfl, nz, oz, rfl⟩
        have HK := hid ((unhid HK).grown nz oz)
        generalize grow (Wd.drewN nz) oz = w5 at *
        refine hK.out _ _ ((unhid HSF) _ (unhid HK)) ?_
        clear hSE hK K
        intro hSE
        (try simp only [Act.put, List.setIfInBounds_toArray, List.set_cons_zero, List.set_cons_succ])
        (refine WE_take (i := 12) (v := ?_) rfl (by kernel_rfl) (by decide) (by kernel_rfl) (by kernel_rfl) (fun _ _ _ h => h) (by rfl) hSE ?_ ?_; rotate_left; (focus (intro w hSw; (try dsimp only at hSw); go_simp; (try with_reducible rfl))); simp only [Act.put, List.setIfInBounds_toArray, List.set_cons_zero, List.set_cons_succ])
        (refine WE_last rfl (by kernel_rfl) (by kernel_rfl) (by kernel_rfl) ?_; intro K hK; go_simp; refine hK.out _ _ (NoPanic.normal ?_); clear hK K)
        clear hSE HSF
        go_wp2_with fail
        go_roundw
        case rel => exact ⟨i, h, rfl, rfl, unhid HN, unhid HK⟩
        case measure => have h1 := unhid HB3; simp [intOf]; omega
      · have HN := hid ((unhid HCUT).right ((unhid HIN).monoM (unhid HRL) (unhid HMID)) (by omega) (by omega) hp)
        have eax : ((mid : Int) + (m : Int) - 1 - (h : Int)).toNat = mid + m - 1 - h := by omega
        have pax : (0 : Int) ≤ (mid : Int) + (m : Int) - 1 - (h : Int) := by omega
        have bax : (mid : Int) + (m : Int) - 1 - (h : Int) < (d0.size : Int) := by omega
        have rax : IntKind.i64.wrap ((mid : Int) + (m : Int) - 1 - (h : Int)) = (mid : Int) + (m : Int) - 1 - (h : Int) := by rw [IntKind.wrap_i64]; omega
        have eay : ((h : Int)).toNat = h := by omega
        have pay : (0 : Int) ≤ (h : Int) := by omega
        have bay : (h : Int) < (d0.size : Int) := by omega
        have ray : IntKind.i64.wrap ((h : Int)) = (h : Int) := by rw [IntKind.wrap_i64]; omega
        have pax2 : (h : Int) ≤ (mid : Int) + (m : Int) - 1 := by omega
        obtain ⟨x, hx⟩ : ∃ x, x = d[mid + m - 1 - h]! := ⟨_, rfl⟩
        obtain ⟨y, hy⟩ : ∃ y, y = d[h]! := ⟨_, rfl⟩
        have HSF := hid (show ∀ w', SWK rcC 14 w0 blk off d w' → (w'.cell? ⟨blk, off + (mid + m - 1 - h) * 14, none⟩ = some (.int .i64 x.tab) ∧ w'.cell? ⟨blk, off + (mid + m - 1 - h) * 14 + 1, none⟩ = some (.int .i64 x.num) ∧ w'.cell? ⟨blk, off + (mid + m - 1 - h) * 14 + 2, none⟩ = some (.int .i64 x.hour) ∧ w'.cell? ⟨blk, off + (mid + m - 1 - h) * 14 + 3, none⟩ = some (.int .i64 x.sign) ∧ w'.cell? ⟨blk, off + (mid + m - 1 - h) * 14 + 4, none⟩ = some (.int .i64 x.fld) ∧ w'.cell? ⟨blk, off + (mid + m - 1 - h) * 14 + 5, none⟩ = some (.int .i64 x.val) ∧ w'.cell? ⟨blk, off + (mid + m - 1 - h) * 14 + 6, none⟩ = some (.int .i64 x.s0) ∧ w'.cell? ⟨blk, off + (mid + m - 1 - h) * 14 + 7, none⟩ = some (.int .i64 x.s1) ∧ w'.cell? ⟨blk, off + (mid + m - 1 - h) * 14 + 8, none⟩ = some (.int .i64 x.s2) ∧ w'.cell? ⟨blk, off + (mid + m - 1 - h) * 14 + 9, none⟩ = some (.int .i64 x.s3) ∧ w'.cell? ⟨blk, off + (mid + m - 1 - h) * 14 + 10, none⟩ = some (.int .i64 x.s4) ∧ w'.cell? ⟨blk, off + (mid + m - 1 - h) * 14 + 11, none⟩ = some (.int .i64 x.s5) ∧ w'.cell? ⟨blk, off + (mid + m - 1 - h) * 14 + 12, none⟩ = some (.int .i64 x.s6) ∧ w'.cell? ⟨blk, off + (mid + m - 1 - h) * 14 + 13, none⟩ = some (.int .i64 x.s7)) ∧ (w'.cell? ⟨blk, off + (h) * 14, none⟩ = some (.int .i64 y.tab) ∧ w'.cell? ⟨blk, off + (h) * 14 + 1, none⟩ = some (.int .i64 y.num) ∧ w'.cell? ⟨blk, off + (h) * 14 + 2, none⟩ = some (.int .i64 y.hour) ∧ w'.cell? ⟨blk, off + (h) * 14 + 3, none⟩ = some (.int .i64 y.sign) ∧ w'.cell? ⟨blk, off + (h) * 14 + 4, none⟩ = some (.int .i64 y.fld) ∧ w'.cell? ⟨blk, off + (h) * 14 + 5, none⟩ = some (.int .i64 y.val) ∧ w'.cell? ⟨blk, off + (h) * 14 + 6, none⟩ = some (.int .i64 y.s0) ∧ w'.cell? ⟨blk, off + (h) * 14 + 7, none⟩ = some (.int .i64 y.s1) ∧ w'.cell? ⟨blk, off + (h) * 14 + 8, none⟩ = some (.int .i64 y.s2) ∧ w'.cell? ⟨blk, off + (h) * 14 + 9, none⟩ = some (.int .i64 y.s3) ∧ w'.cell? ⟨blk, off + (h) * 14 + 10, none⟩ = some (.int .i64 y.s4) ∧ w'.cell? ⟨blk, off + (h) * 14 + 11, none⟩ = some (.int .i64 y.s5) ∧ w'.cell? ⟨blk, off + (h) * 14 + 12, none⟩ = some (.int .i64 y.s6) ∧ w'.cell? ⟨blk, off + (h) * 14 + 13, none⟩ = some (.int .i64 y.s7)) from fun w' hk => ⟨swk_cells14 (i := mid + m - 1 - h) hk (unhid HR) (by omega) (by omega) hx, swk_cells14 (i := h) hk (unhid HR) (by omega) (by omega) hy⟩)
        have hd : decide (hrI x y < 0) = false := decide_eq_false (by rw [hx, hy]; exact hp)
        clear hx hy hp
        go_wp2_with fail
        refine wp_region_noPanic ?_
        refine wp_region_E (S := fun w' => (w'.cell? ⟨blk, off + (mid + m - 1 - h) * 14, none⟩ = some (.int .i64 x.tab) ∧ w'.cell? ⟨blk, off + (mid + m - 1 - h) * 14 + 1, none⟩ = some (.int .i64 x.num) ∧ w'.cell? ⟨blk, off + (mid + m - 1 - h) * 14 + 2, none⟩ = some (.int .i64 x.hour) ∧ w'.cell? ⟨blk, off + (mid + m - 1 - h) * 14 + 3, none⟩ = some (.int .i64 x.sign) ∧ w'.cell? ⟨blk, off + (mid + m - 1 - h) * 14 + 4, none⟩ = some (.int .i64 x.fld) ∧ w'.cell? ⟨blk, off + (mid + m - 1 - h) * 14 + 5, none⟩ = some (.int .i64 x.val) ∧ w'.cell? ⟨blk, off + (mid + m - 1 - h) * 14 + 6, none⟩ = some (.int .i64 x.s0) ∧ w'.cell? ⟨blk, off + (mid + m - 1 - h) * 14 + 7, none⟩ = some (.int .i64 x.s1) ∧ w'.cell? ⟨blk, off + (mid + m - 1 - h) * 14 + 8, none⟩ = some (.int .i64 x.s2) ∧ w'.cell? ⟨blk, off + (mid + m - 1 - h) * 14 + 9, none⟩ = some (.int .i64 x.s3) ∧ w'.cell? ⟨blk, off + (mid + m - 1 - h) * 14 + 10, none⟩ = some (.int .i64 x.s4) ∧ w'.cell? ⟨blk, off + (mid + m - 1 - h) * 14 + 11, none⟩ = some (.int .i64 x.s5) ∧ w'.cell? ⟨blk, off + (mid + m - 1 - h) * 14 + 12, none⟩ = some (.int .i64 x.s6) ∧ w'.cell? ⟨blk, off + (mid + m - 1 - h) * 14 + 13, none⟩ = some (.int .i64 x.s7)) ∧ (w'.cell? ⟨blk, off + (h) * 14, none⟩ = some (.int .i64 y.tab) ∧ w'.cell? ⟨blk, off + (h) * 14 + 1, none⟩ = some (.int .i64 y.num) ∧ w'.cell? ⟨blk, off + (h) * 14 + 2, none⟩ = some (.int .i64 y.hour) ∧ w'.cell? ⟨blk, off + (h) * 14 + 3, none⟩ = some (.int .i64 y.sign) ∧ w'.cell? ⟨blk, off + (h) * 14 + 4, none⟩ = some (.int .i64 y.fld) ∧ w'.cell? ⟨blk, off + (h) * 14 + 5, none⟩ = some (.int .i64 y.val) ∧ w'.cell? ⟨blk, off + (h) * 14 + 6, none⟩ = some (.int .i64 y.s0) ∧ w'.cell? ⟨blk, off + (h) * 14 + 7, none⟩ = some (.int .i64 y.s1) ∧ w'.cell? ⟨blk, off + (h) * 14 + 8, none⟩ = some (.int .i64 y.s2) ∧ w'.cell? ⟨blk, off + (h) * 14 + 9, none⟩ = some (.int .i64 y.s3) ∧ w'.cell? ⟨blk, off + (h) * 14 + 10, none⟩ = some (.int .i64 y.s4) ∧ w'.cell? ⟨blk, off + (h) * 14 + 11, none⟩ = some (.int .i64 y.s5) ∧ w'.cell? ⟨blk, off + (h) * 14 + 12, none⟩ = some (.int .i64 y.s6) ∧ w'.cell? ⟨blk, off + (h) * 14 + 13, none⟩ = some (.int .i64 y.s7))) 13 14 rfl (by kernel_rfl) (by kernel_rfl) ((unhid HSF) _ (unhid HK).drew) ?_
        intro hSE
        have HK := hid (unhid HK).drew
        generalize wr.drew = Wd at *
        (refine WE_take (i := 0) (v := ?_) rfl (by kernel_rfl) (by decide) (by kernel_rfl) (by kernel_rfl) (fun _ _ _ h => h) (by rfl) hSE ?_ ?_; rotate_left; (focus (intro w hSw; (try dsimp only at hSw); go_simp; (try with_reducible rfl))); simp only [Act.put, List.setIfInBounds_toArray, List.set_cons_zero, List.set_cons_succ])
        (refine WE_take (i := 1) (v := ?_) rfl (by kernel_rfl) (by decide) (by kernel_rfl) (by kernel_rfl) (fun _ _ _ h => h) (by rfl) hSE ?_ ?_; rotate_left; (focus (intro w hSw; (try dsimp only at hSw); go_simp; (try with_reducible rfl))); simp only [Act.put, List.setIfInBounds_toArray, List.set_cons_zero, List.set_cons_succ])
        (refine WE_take (i := 2) (v := ?_) rfl (by kernel_rfl) (by decide) (by kernel_rfl) (by kernel_rfl) (fun _ _ _ h => h) (by rfl) hSE ?_ ?_; rotate_left; (focus (intro w hSw; (try dsimp only at hSw); go_simp; (try with_reducible rfl))); simp only [Act.put, List.setIfInBounds_toArray, List.set_cons_zero, List.set_cons_succ])
        (refine WE_take (i := 3) (v := ?_) rfl (by kernel_rfl) (by decide) (by kernel_rfl) (by kernel_rfl) (fun _ _ _ h => h) (by rfl) hSE ?_ ?_; rotate_left; (focus (intro w hSw; (try dsimp only at hSw); go_simp; (try with_reducible rfl))); simp only [Act.put, List.setIfInBounds_toArray, List.set_cons_zero, List.set_cons_succ])
        (refine WE_take (i := 4) (v := ?_) rfl (by kernel_rfl) (by decide) (by kernel_rfl) (by kernel_rfl) (fun _ _ _ h => h) (by rfl) hSE ?_ ?_; rotate_left; (focus (intro w hSw; (try dsimp only at hSw); go_simp; (try with_reducible rfl))); simp only [Act.put, List.setIfInBounds_toArray, List.set_cons_zero, List.set_cons_succ])
        (refine WE_take (i := 5) (v := ?_) rfl (by kernel_rfl) (by decide) (by kernel_rfl) (by kernel_rfl) (fun _ _ _ h => h) (by rfl) hSE ?_ ?_; rotate_left; (focus (intro w hSw; (try dsimp only at hSw); go_simp; (try with_reducible rfl))); simp only [Act.put, List.setIfInBounds_toArray, List.set_cons_zero, List.set_cons_succ])
        (refine WE_take (i := 6) (v := ?_) rfl (by kernel_rfl) (by decide) (by kernel_rfl) (by kernel_rfl) (fun _ _ _ h => h) (by rfl) hSE ?_ ?_; rotate_left; (focus (intro w hSw; (try dsimp only at hSw); go_simp; (try with_reducible rfl))); simp only [Act.put, List.setIfInBounds_toArray, List.set_cons_zero, List.set_cons_succ])
        (refine WE_take (i := 7) (v := ?_) rfl (by kernel_rfl) (by decide) (by kernel_rfl) (by kernel_rfl) (fun _ _ _ h => h) (by rfl) hSE ?_ ?_; rotate_left; (focus (intro w hSw; (try dsimp only at hSw); go_simp; (try with_reducible rfl))); simp only [Act.put, List.setIfInBounds_toArray, List.set_cons_zero, List.set_cons_succ])
        (refine WE_take (i := 8) (v := ?_) rfl (by kernel_rfl) (by decide) (by kernel_rfl) (by kernel_rfl) (fun _ _ _ h => h) (by rfl) hSE ?_ ?_; rotate_left; (focus (intro w hSw; (try dsimp only at hSw); go_simp; (try with_reducible rfl))); simp only [Act.put, List.setIfInBounds_toArray, List.set_cons_zero, List.set_cons_succ])
        (refine WE_take (i := 9) (v := ?_) rfl (by kernel_rfl) (by decide) (by kernel_rfl) (by kernel_rfl) (fun _ _ _ h => h) (by rfl) hSE ?_ ?_; rotate_left; (focus (intro w hSw; (try dsimp only at hSw); go_simp; (try with_reducible rfl))); simp only [Act.put, List.setIfInBounds_toArray, List.set_cons_zero, List.set_cons_succ])
        (refine WE_take (i := 10) (v := ?_) rfl (by kernel_rfl) (by decide) (by kernel_rfl) (by kernel_rfl) (fun _ _ _ h => h) (by rfl) hSE ?_ ?_; rotate_left; (focus (intro w hSw; (try dsimp only at hSw); go_simp; (try with_reducible rfl))); simp only [Act.put, List.setIfInBounds_toArray, List.set_cons_zero, List.set_cons_succ])
        (refine WE_one (i := 11) rfl (by decide) (by kernel_rfl) ?_; intro K hK)
        go_simp
        refine (byHourW_calls x y Wd).mono ?_
        rintro e wz ⟨rfl, nz, oz, rfl⟩
        have HK := hid ((unhid HK).grown nz oz)
        generalize grow (Wd.drewN nz) oz = w5 at *
        refine hK.out _ _ ((unhid HSF) _ (unhid HK)) ?_
        clear hSE hK K
        intro hSE
        (try simp only [Act.put, List.setIfInBounds_toArray, List.set_cons_zero, List.set_cons_succ])
        (refine WE_take (i := 12) (v := ?_) rfl (by kernel_rfl) (by decide) (by kernel_rfl) (by kernel_rfl) (fun _ _ _ h => h) (by rfl) hSE ?_ ?_; rotate_left; (focus (intro w hSw; (try dsimp only at hSw); go_simp; (try with_reducible rfl))); simp only [Act.put, List.setIfInBounds_toArray, List.set_cons_zero, List.set_cons_succ])
        (refine WE_last rfl (by kernel_rfl) (by kernel_rfl) (by kernel_rfl) ?_; intro K hK; go_simp; refine hK.out _ _ (NoPanic.normal ?_); clear hK K)
        clear hSE HSF
        go_wp2_with fail
        go_roundw
        case rel => exact ⟨h + 1, j, by go_num, rfl, unhid HN, unhid HK⟩
        case measure => have h1 := unhid HB3; simp [intOf]; omega
    · obtain rfl : i = j := by omega
      have hnn : ¬ (i : Int) < (i : Int) := by omega
      have hc := (unhid HCUT)
      have hMd := unhid HMID
      obtain ⟨q1, q2, q3, q4, q5⟩ := hMd
      clear hc
      have hbN : b - a ≤ N + 1 := (unhid HSZ).2.2.2.2.2
      by_cases g7 : i < m
      · by_cases g8 : m < mid + m - i
        · have c5 : (i : Int) < (m : Int) := by omega
          have c6 : (m : Int) < (mid : Int) + (m : Int) - (i : Int) := by omega
          go_wp2_with fail
          refine (rotate_calls (unhid HR) _ i m (mid + m - i) cap _ _ _ d wr (unhid HK) (unhid HSZ).2.1 (by omega) (by omega) (by omega) (unhid HSZ).1 rfl rfl (by omega)).mono ?_
          rintro e w5 ⟨rfl, d1, hrot, hk1⟩
          have HK := hid hk1
          clear hk1
          obtain ⟨hA, hB, hX⟩ := (unhid HIN).split (unhid HRL) (unhid HMID) (unhid HCUT) hrot (by have := (unhid HSZ).2.1; omega)
          have HA := hid hA
          have HB := hid hB
          have HX := hid hX
          have HROT := hid (⟨hrot.perm a b (by omega) (by omega) (by have := (unhid HSZ).2.1; omega), trivial⟩ : PermIn a b d _ ∧ True)
          have HSD := hid (show _ = d0.size from hrot.size.trans (unhid HSZ).2.1)
          clear hA hB hX hrot
          by_cases g5 : a < i
          · by_cases g6 : i < mid
            · have c1 : (a : Int) < (i : Int) := by omega
              have c2 : (i : Int) < (mid : Int) := by omega
              go_wp2_with fail
              refine ((unhid IH) a i mid _ _ _ _ _ (by omega) rfl rfl rfl (unhid HK) (unhid HSD) (by omega) (by omega) (by omega) (unhid HA)).mono ?_
              rintro e w6 ⟨rfl, d2, hm2, hk2⟩
              have HK := hid hk2
              have HM1 := hid hm2
              have HSD := hid (show d2.size = d0.size from hm2.perm.1.trans (unhid HSD))
              have HB := hid ((unhid HB).congr (fun t h1 h2 => hm2.perm.2.1 t (.inr h1)) (by omega) (by omega))
              clear hm2 hk2
              by_cases g3 : mid < mid + m - i
              · by_cases g4 : mid + m - i < b
                · have c3 : (mid : Int) < (mid : Int) + (m : Int) - (i : Int) := by omega
                  have c4 : (mid : Int) + (m : Int) - (i : Int) < (b : Int) := by omega
                  go_wp2_with fail
                  refine ((unhid IH) mid (mid + m - i) b _ _ _ _ _ (by omega) rfl (by omega) rfl (unhid HK) (unhid HSD) (by omega) (by omega) (by omega) (unhid HB)).mono ?_
                  rintro e w7 ⟨rfl, d3, hm3, hk3⟩
                  have HK := hid hk3
                  have HM2 := hid hm3
                  clear hm3 hk3
                  have HP := hid (show MgPost w0 blk off Rl a b d (.returned (.tuple #[])) _ from ⟨rfl, _, merged (unhid HROT).1 (unhid HX) (unhid HM1) (unhid HM2) (by omega) (by omega) (by have := (unhid HSZ).2.1; omega), unhid HK⟩)
                  go_wp2_with fail
                  go_end0
                  exact unhid HP
                · have c3 : (mid : Int) < (mid : Int) + (m : Int) - (i : Int) := by omega
                  have c4 : ¬ (mid : Int) + (m : Int) - (i : Int) < (b : Int) := by omega
                  have HM2 := hid ((unhid HB).edge (by omega))
                  have HP := hid (show MgPost w0 blk off Rl a b d (.returned (.tuple #[])) _ from ⟨rfl, _, merged (unhid HROT).1 (unhid HX) (unhid HM1) (unhid HM2) (by omega) (by omega) (by have := (unhid HSZ).2.1; omega), unhid HK⟩)
                  go_wp2_with fail
                  go_end0
                  exact unhid HP
              · exfalso
                omega
            · exfalso
              omega
          · have c1 : ¬ (a : Int) < (i : Int) := by omega
            have HM1 := hid ((unhid HA).edge (by omega))
            by_cases g3 : mid < mid + m - i
            · by_cases g4 : mid + m - i < b
              · have c3 : (mid : Int) < (mid : Int) + (m : Int) - (i : Int) := by omega
                have c4 : (mid : Int) + (m : Int) - (i : Int) < (b : Int) := by omega
                go_wp2_with fail
                refine ((unhid IH) mid (mid + m - i) b _ _ _ _ _ (by omega) rfl (by omega) rfl (unhid HK) (unhid HSD) (by omega) (by omega) (by omega) (unhid HB)).mono ?_
                rintro e w7 ⟨rfl, d3, hm3, hk3⟩
                have HK := hid hk3
                have HM2 := hid hm3
                clear hm3 hk3
                have HP := hid (show MgPost w0 blk off Rl a b d (.returned (.tuple #[])) _ from ⟨rfl, _, merged (unhid HROT).1 (unhid HX) (unhid HM1) (unhid HM2) (by omega) (by omega) (by have := (unhid HSZ).2.1; omega), unhid HK⟩)
                go_wp2_with fail
                go_end0
                exact unhid HP
              · have c3 : (mid : Int) < (mid : Int) + (m : Int) - (i : Int) := by omega
                have c4 : ¬ (mid : Int) + (m : Int) - (i : Int) < (b : Int) := by omega
                have HM2 := hid ((unhid HB).edge (by omega))
                have HP := hid (show MgPost w0 blk off Rl a b d (.returned (.tuple #[])) _ from ⟨rfl, _, merged (unhid HROT).1 (unhid HX) (unhid HM1) (unhid HM2) (by omega) (by omega) (by have := (unhid HSZ).2.1; omega), unhid HK⟩)
                go_wp2_with fail
                go_end0
                exact unhid HP
            · exfalso
              omega
        · have c5 : (i : Int) < (m : Int) := by omega
          have c6 : ¬ (m : Int) < (mid : Int) + (m : Int) - (i : Int) := by omega
          have hrot : RotI d i m (mid + m - i) d := RotI.none d (by omega) (by omega) (by omega)
          obtain ⟨hA, hB, hX⟩ := (unhid HIN).split (unhid HRL) (unhid HMID) (unhid HCUT) hrot (by have := (unhid HSZ).2.1; omega)
          have HA := hid hA
          have HB := hid hB
          have HX := hid hX
          have HROT := hid (⟨hrot.perm a b (by omega) (by omega) (by have := (unhid HSZ).2.1; omega), trivial⟩ : PermIn a b d _ ∧ True)
          have HSD := hid (show _ = d0.size from hrot.size.trans (unhid HSZ).2.1)
          clear hA hB hX hrot
          by_cases g5 : a < i
          · by_cases g6 : i < mid
            · exfalso
              omega
            · have c1 : (a : Int) < (i : Int) := by omega
              have c2 : ¬ (i : Int) < (mid : Int) := by omega
              have HM1 := hid ((unhid HA).edge (by omega))
              by_cases g3 : mid < mid + m - i
              · by_cases g4 : mid + m - i < b
                · have c3 : (mid : Int) < (mid : Int) + (m : Int) - (i : Int) := by omega
                  have c4 : (mid : Int) + (m : Int) - (i : Int) < (b : Int) := by omega
                  go_wp2_with fail
                  refine ((unhid IH) mid (mid + m - i) b _ _ _ _ _ (by omega) rfl (by omega) rfl (unhid HK) (unhid HSD) (by omega) (by omega) (by omega) (unhid HB)).mono ?_
                  rintro e w7 ⟨rfl, d3, hm3, hk3⟩
                  have HK := hid hk3
                  have HM2 := hid hm3
                  clear hm3 hk3
                  have HP := hid (show MgPost w0 blk off Rl a b d (.returned (.tuple #[])) _ from ⟨rfl, _, merged (unhid HROT).1 (unhid HX) (unhid HM1) (unhid HM2) (by omega) (by omega) (by have := (unhid HSZ).2.1; omega), unhid HK⟩)
                  go_wp2_with fail
                  go_end0
                  exact unhid HP
                · exfalso
                  omega
              · exfalso
                omega
          · exfalso
            omega
      · exfalso
        omega

set_option maxHeartbeats 8000000 in
set_option maxRecDepth 100000 in
theorem mg4_calls {w0 : World} {blk off : Nat} {d0 : Array Rc} (R : RowK rcC 14 w0 blk off d0) {Rl : Rc → Rc → Prop} (hRl : Strict Rl) (cap : Nat) (hsz : d0.size ≤ 1000000) (N : Nat) (ih : ∀ (a m b : Nat) (ai mi bi : Int) (d : Array Rc) (w : World), b - a ≤ N → ai = (a : Int) → mi = (m : Int) → bi = (b : Int) → SWK rcC 14 w0 blk off d w → d.size = d0.size → a < m → m < b → b ≤ d0.size → MrgIn Rl hrI d a m b →
    Calls Tryz.prog 140 #[.slice (some ⟨blk, off, none⟩) d0.size cap, .int .i64 ai, .int .i64 mi, .int .i64 bi, .func (.func 83) #[] #[]] w fun e w' => MgPost w0 blk off Rl a b d e w')
    (a m b : Nat) (d : Array Rc) (w : World) (hN : b - a ≤ N + 1) (h : SWK rcC 14 w0 blk off d w) (hs : d.size = d0.size) (ham : a < m) (hmb : m < b) (hb : b ≤ d0.size) (hin : MrgIn Rl hrI d a m b) (h1 : ¬ m = a + 1) (h2 : ¬ b = m + 1) (mid : Nat) (hmid : mid = (a + b) / 2) (hmm : ¬ mid < m) :
    Calls Tryz.prog 140 #[.slice (some ⟨blk, off, none⟩) d0.size cap, .int .i64 (a : Int), .int .i64 (m : Int), .int .i64 (b : Int), .func (.func 83) #[] #[]] w fun e w' => MgPost w0 blk off Rl a b d e w' := by
  have mixed : Tryz.prog.follows .mixedOrders = true := by kernel_rfl
  have HR := hid R
  have HRL := hid hRl
  have HK := hid h
  have HIN := hid hin
  have IH := hid ih
  have HSZ := hid (show d0.size ≤ 1000000 ∧ d.size = d0.size ∧ b ≤ d0.size ∧ a < m ∧ m < b ∧ b - a ≤ N + 1 from ⟨hsz, hs, hb, ham, hmb, hN⟩)
  clear h hin ih
  go_enter Tryz.func140, Tryz.ntmps140
  have q1 : ((m : Int) - (a : Int) == 1) = false := beq_eq_false_iff_ne.2 (by omega)
  have r1 : IntKind.i64.wrap ((m : Int) - (a : Int)) = (m : Int) - (a : Int) := by rw [IntKind.wrap_i64]; omega
  have q2 : ((b : Int) - (m : Int) == 1) = false := beq_eq_false_iff_ne.2 (by omega)
  have r2 : IntKind.i64.wrap ((b : Int) - (m : Int)) = (b : Int) - (m : Int) := by rw [IntKind.wrap_i64]; omega
  have HMI := hid hmid
  have hM6 : mid * 2 ≤ a + b ∧ a + b ≤ mid * 2 + 1 := by omega
  clear hmid
  go_upto_region 25 with (fail)
  have hq := half_u64 (unhid HMI)
  rw [hq]
  clear hq
  have HMID := hid (show Mid a m b mid (a) (m) from ⟨by omega, by omega, by omega, by omega, .inr ⟨by omega, rfl, rfl⟩⟩)
  have hmi : ¬ (m : Int) > (mid : Int) := by omega
  go_upto_region 33 with (fail)
  clear q1 r1 q2 r2 hmi
  go_loopw [20, 21] (fun iv jv wr => ∃ (i j : Nat), iv = .int .i64 i ∧ jv = .int .i64 j ∧ Cut (tst3 d (mid + m - 1)) (a) (m) i j ∧ SWK rcC 14 w0 blk off d wr) (fun iv jv _ => (intOf jv).toNat - (intOf iv).toNat)
  case atStart => exact ⟨a, m, by first | rfl | (congr 1; omega), rfl, Cut.start (by omega), unhid HK⟩
  case round =>
    clear HK
    obtain ⟨i, j, rfl, rfl, hcut, hk⟩ := hrel
    have HCUT := hid hcut
    have HK := hid hk
    have hb3 : (a) ≤ i ∧ i ≤ j ∧ j ≤ (m) := ⟨hcut.li, hcut.ij, hcut.jh⟩
    clear hcut hk
    by_cases hlt : i < j
    · have hlti : (i : Int) < (j : Int) := by omega
      go_upto_region 35 with (fail)
      obtain ⟨h, hh⟩ : ∃ h, h = (i + j) / 2 := ⟨_, rfl⟩
      have hq := half_u64 hh
      rw [hq]
      have HB3 := hid (show i ≤ h ∧ h < j from by omega)
      have hb4 : i ≤ h ∧ h < j := unhid HB3
      clear hq hh
      by_cases hp : hrI d[mid + m - 1 - h]! d[h]! < 0
      · have HN := hid ((unhid HCUT).left ((unhid HIN).monoM (unhid HRL) (unhid HMID)) (by omega) (by omega) (fun hn => hn hp))
        have eax : ((mid : Int) + (m : Int) - 1 - (h : Int)).toNat = mid + m - 1 - h := by omega
        have pax : (0 : Int) ≤ (mid : Int) + (m : Int) - 1 - (h : Int) := by omega
        have bax : (mid : Int) + (m : Int) - 1 - (h : Int) < (d0.size : Int) := by omega
        have rax : IntKind.i64.wrap ((mid : Int) + (m : Int) - 1 - (h : Int)) = (mid : Int) + (m : Int) - 1 - (h : Int) := by rw [IntKind.wrap_i64]; omega
        have eay : ((h : Int)).toNat = h := by omega
        have pay : (0 : Int) ≤ (h : Int) := by omega
        have bay : (h : Int) < (d0.size : Int) := by omega
        have ray : IntKind.i64.wrap ((h : Int)) = (h : Int) := by rw [IntKind.wrap_i64]; omega
        have pax2 : (h : Int) ≤ (mid : Int) + (m : Int) - 1 := by omega
        obtain ⟨x, hx⟩ : ∃ x, x = d[mid + m - 1 - h]! := ⟨_, rfl⟩
        obtain ⟨y, hy⟩ : ∃ y, y = d[h]! := ⟨_, rfl⟩
        have HSF := hid (show ∀ w', SWK rcC 14 w0 blk off d w' → (w'.cell? ⟨blk, off + (mid + m - 1 - h) * 14, none⟩ = some (.int .i64 x.tab) ∧ w'.cell? ⟨blk, off + (mid + m - 1 - h) * 14 + 1, none⟩ = some (.int .i64 x.num) ∧ w'.cell? ⟨blk, off + (mid + m - 1 - h) * 14 + 2, none⟩ = some (.int .i64 x.hour) ∧ w'.cell? ⟨blk, off + (mid + m - 1 - h) * 14 + 3, none⟩ = some (.int .i64 x.sign) ∧ w'.cell? ⟨blk, off + (mid + m - 1 - h) * 14 + 4, none⟩ = some (.int .i64 x.fld) ∧ w'.cell? ⟨blk, off + (mid + m - 1 - h) * 14 + 5, none⟩ = some (.int .i64 x.val) ∧ w'.cell? ⟨blk, off + (mid + m - 1 - h) * 14 + 6, none⟩ = some (.int .i64 x.s0) ∧ w'.cell? ⟨blk, off + (mid + m - 1 - h) * 14 + 7, none⟩ = some (.int .i64 x.s1) ∧ w'.cell? ⟨blk, off + (mid + m - 1 - h) * 14 + 8, none⟩ = some (.int .i64 x.s2) ∧ w'.cell? ⟨blk, off + (mid + m - 1 - h) * 14 + 9, none⟩ = some (.int .i64 x.s3) ∧ w'.cell? ⟨blk, off + (mid + m - 1 - h) * 14 + 10, none⟩ = some (.int .i64 x.s4) ∧ w'.cell? ⟨blk, off + (mid + m - 1 - h) * 14 + 11, none⟩ = some (.int .i64 x.s5) ∧ w'.cell? ⟨blk, off + (mid + m - 1 - h) * 14 + 12, none⟩ = some (.int .i64 x.s6) ∧ w'.cell? ⟨blk, off + (mid + m - 1 - h) * 14 + 13, none⟩ = some (.int .i64 x.s7)) ∧ (w'.cell? ⟨blk, off + (h) * 14, none⟩ = some (.int .i64 y.tab) ∧ w'.cell? ⟨blk, off + (h) * 14 + 1, none⟩ = some (.int .i64 y.num) ∧ w'.cell? ⟨blk, off + (h) * 14 + 2, none⟩ = some (.int .i64 y.hour) ∧ w'.cell? ⟨blk, off + (h) * 14 + 3, none⟩ = some (.int .i64 y.sign) ∧ w'.cell? ⟨blk, off + (h) * 14 + 4, none⟩ = some (.int .i64 y.fld) ∧ w'.cell? ⟨blk, off + (h) * 14 + 5, none⟩ = some (.int .i64 y.val) ∧ w'.cell? ⟨blk, off + (h) * 14 + 6, none⟩ = some (.int .i64 y.s0) ∧ w'.cell? ⟨blk, off + (h) * 14 + 7, none⟩ = some (.int .i64 y.s1) ∧ w'.cell? ⟨blk, off + (h) * 14 + 8, none⟩ = some (.int .i64 y.s2) ∧ w'.cell? ⟨blk, off + (h) * 14 + 9, none⟩ = some (.int .i64 y.s3) ∧ w'.cell? ⟨blk, off + (h) * 14 + 10, none⟩ = some (.int .i64 y.s4) ∧ w'.cell? ⟨blk, off + (h) * 14 + 11, none⟩ = some (.int .i64 y.s5) ∧ w'.cell? ⟨blk, off + (h) * 14 + 12, none⟩ = some (.int .i64 y.s6) ∧ w'.cell? ⟨blk, off + (h) * 14 + 13, none⟩ = some (.int .i64 y.s7)) from fun w' hk => ⟨swk_cells14 (i := mid + m - 1 - h) hk (unhid HR) (by omega) (by omega) hx, swk_cells14 (i := h) hk (unhid HR) (by omega) (by omega) hy⟩)
        have hd : decide (hrI x y < 0) = true := decide_eq_true (by rw [hx, hy]; exact hp)
        clear hx hy hp
        go_wp2_with fail
        refine wp_region_noPanic ?_
        refine wp_region_E (S := fun w' => (w'.cell? ⟨blk, off + (mid + m - 1 - h) * 14, none⟩ = some (.int .i64 x.tab) ∧ w'.cell? ⟨blk, off + (mid + m - 1 - h) * 14 + 1, none⟩ = some (.int .i64 x.num) ∧ w'.cell? ⟨blk, off + (mid + m - 1 - h) * 14 + 2, none⟩ = some (.int .i64 x.hour) ∧ w'.cell? ⟨blk, off + (mid + m - 1 - h) * 14 + 3, none⟩ = some (.int .i64 x.sign) ∧ w'.cell? ⟨blk, off + (mid + m - 1 - h) * 14 + 4, none⟩ = some (.int .i64 x.fld) ∧ w'.cell? ⟨blk, off + (mid + m - 1 - h) * 14 + 5, none⟩ = some (.int .i64 x.val) ∧ w'.cell? ⟨blk, off + (mid + m - 1 - h) * 14 + 6, none⟩ = some (.int .i64 x.s0) ∧ w'.cell? ⟨blk, off + (mid + m - 1 - h) * 14 + 7, none⟩ = some (.int .i64 x.s1) ∧ w'.cell? ⟨blk, off + (mid + m - 1 - h) * 14 + 8, none⟩ = some (.int .i64 x.s2) ∧ w'.cell? ⟨blk, off + (mid + m - 1 - h) * 14 + 9, none⟩ = some (.int .i64 x.s3) ∧ w'.cell? ⟨blk, off + (mid + m - 1 - h) * 14 + 10, none⟩ = some (.int .i64 x.s4) ∧ w'.cell? ⟨blk, off + (mid + m - 1 - h) * 14 + 11, none⟩ = some (.int .i64 x.s5) ∧ w'.cell? ⟨blk, off + (mid + m - 1 - h) * 14 + 12, none⟩ = some (.int .i64 x.s6) ∧ w'.cell? ⟨blk, off + (mid + m - 1 - h) * 14 + 13, none⟩ = some (.int .i64 x.s7)) ∧ (w'.cell? ⟨blk, off + (h) * 14, none⟩ = some (.int .i64 y.tab) ∧ w'.cell? ⟨blk, off + (h) * 14 + 1, none⟩ = some (.int .i64 y.num) ∧ w'.cell? ⟨blk, off + (h) * 14 + 2, none⟩ = some (.int .i64 y.hour) ∧ w'.cell? ⟨blk, off + (h) * 14 + 3, none⟩ = some (.int .i64 y.sign) ∧ w'.cell? ⟨blk, off + (h) * 14 + 4, none⟩ = some (.int .i64 y.fld) ∧ w'.cell? ⟨blk, off + (h) * 14 + 5, none⟩ = some (.int .i64 y.val) ∧ w'.cell? ⟨blk, off + (h) * 14 + 6, none⟩ = some (.int .i64 y.s0) ∧ w'.cell? ⟨blk, off + (h) * 14 + 7, none⟩ = some (.int .i64 y.s1) ∧ w'.cell? ⟨blk, off + (h) * 14 + 8, none⟩ = some (.int .i64 y.s2) ∧ w'.cell? ⟨blk, off + (h) * 14 + 9, none⟩ = some (.int .i64 y.s3) ∧ w'.cell? ⟨blk, off + (h) * 14 + 10, none⟩ = some (.int .i64 y.s4) ∧ w'.cell? ⟨blk, off + (h) * 14 + 11, none⟩ = some (.int .i64 y.s5) ∧ w'.cell? ⟨blk, off + (h) * 14 + 12, none⟩ = some (.int .i64 y.s6) ∧ w'.cell? ⟨blk, off + (h) * 14 + 13, none⟩ = some (.int .i64 y.s7))) 13 14 rfl (by kernel_rfl) (by kernel_rfl) ((unhid HSF) _ (unhid HK).drew) ?_
        intro hSE
        have HK := hid (unhid HK).drew
        generalize wr.drew = Wd at *
        (refine WE_take (i := 0) (v := ?_) rfl (by kernel_rfl) (by decide) (by kernel_rfl) (by kernel_rfl) (fun _ _ _ h => h) (by rfl) hSE ?_ ?_; rotate_left; (focus (intro w hSw; (try dsimp only at hSw); go_simp; (try with_reducible rfl))); simp only [Act.put, List.setIfInBounds_toArray, List.set_cons_zero, List.set_cons_succ])
        (refine WE_take (i := 1) (v := ?_) rfl (by kernel_rfl) (by decide) (by kernel_rfl) (by kernel_rfl) (fun _ _ _ h => h) (by rfl) hSE ?_ ?_; rotate_left; (focus (intro w hSw; (try dsimp only at hSw); go_simp; (try with_reducible rfl))); simp only [Act.put, List.setIfInBounds_toArray, List.set_cons_zero, List.set_cons_succ])
        (refine WE_take (i := 2) (v := ?_) rfl (by kernel_rfl) (by decide) (by kernel_rfl) (by kernel_rfl) (fun _ _ _ h => h) (by rfl) hSE ?_ ?_; rotate_left; (focus (intro w hSw; (try dsimp only at hSw); go_simp; (try with_reducible rfl))); simp only [Act.put, List.setIfInBounds_toArray, List.set_cons_zero, List.set_cons_succ])
        (refine WE_take (i := 3) (v := ?_) rfl (by kernel_rfl) (by decide) (by kernel_rfl) (by kernel_rfl) (fun _ _ _ h => h) (by rfl) hSE ?_ ?_; rotate_left; (focus (intro w hSw; (try dsimp only at hSw); go_simp; (try with_reducible rfl))); simp only [Act.put, List.setIfInBounds_toArray, List.set_cons_zero, List.set_cons_succ])
        (refine WE_take (i := 4) (v := ?_) rfl (by kernel_rfl) (by decide) (by kernel_rfl) (by kernel_rfl) (fun _ _ _ h => h) (by rfl) hSE ?_ ?_; rotate_left; (focus (intro w hSw; (try dsimp only at hSw); go_simp; (try with_reducible rfl))); simp only [Act.put, List.setIfInBounds_toArray, List.set_cons_zero, List.set_cons_succ])
        (refine WE_take (i := 5) (v := ?_) rfl (by kernel_rfl) (by decide) (by kernel_rfl) (by kernel_rfl) (fun _ _ _ h => h) (by rfl) hSE ?_ ?_; rotate_left; (focus (intro w hSw; (try dsimp only at hSw); go_simp; (try with_reducible rfl))); simp only [Act.put, List.setIfInBounds_toArray, List.set_cons_zero, List.set_cons_succ])
        (refine WE_take (i := 6) (v := ?_) rfl (by kernel_rfl) (by decide) (by kernel_rfl) (by kernel_rfl) (fun _ _ _ h => h) (by rfl) hSE ?_ ?_; rotate_left; (focus (intro w hSw; (try dsimp only at hSw); go_simp; (try with_reducible rfl))); simp only [Act.put, List.setIfInBounds_toArray, List.set_cons_zero, List.set_cons_succ])
        (refine WE_take (i := 7) (v := ?_) rfl (by kernel_rfl) (by decide) (by kernel_rfl) (by kernel_rfl) (fun _ _ _ h => h) (by rfl) hSE ?_ ?_; rotate_left; (focus (intro w hSw; (try dsimp only at hSw); go_simp; (try with_reducible rfl))); simp only [Act.put, List.setIfInBounds_toArray, List.set_cons_zero, List.set_cons_succ])
        (refine WE_take (i := 8) (v := ?_) rfl (by kernel_rfl) (by decide) (by kernel_rfl) (by kernel_rfl) (fun _ _ _ h => h) (by rfl) hSE ?_ ?_; rotate_left; (focus (intro w hSw; (try dsimp only at hSw); go_simp; (try with_reducible rfl))); simp only [Act.put, List.setIfInBounds_toArray, List.set_cons_zero, List.set_cons_succ])
        (refine WE_take (i := 9) (v := ?_) rfl (by kernel_rfl) (by decide) (by kernel_rfl) (by kernel_rfl) (fun _ _ _ h => h) (by rfl) hSE ?_ ?_; rotate_left; (focus (intro w hSw; (try dsimp only at hSw); go_simp; (try with_reducible rfl))); simp only [Act.put, List.setIfInBounds_toArray, List.set_cons_zero, List.set_cons_succ])
        (refine WE_take (i := 10) (v := ?_) rfl (by kernel_rfl) (by decide) (by kernel_rfl) (by kernel_rfl) (fun _ _ _ h => h) (by rfl) hSE ?_ ?_; rotate_left; (focus (intro w hSw; (try dsimp only at hSw); go_simp; (try with_reducible rfl))); simp only [Act.put, List.setIfInBounds_toArray, List.set_cons_zero, List.set_cons_succ])
        (refine WE_one (i := 11) rfl (by decide) (by kernel_rfl) ?_; intro K hK)
        go_simp
        refine (byHourW_calls x y Wd).mono ?_
        rintro e wz ⟨rfl, nz, oz, rfl⟩
        have HK := hid ((unhid HK).grown nz oz)
        generalize grow (Wd.drewN nz) oz = w5 at *
        refine hK.out _ _ ((unhid HSF) _ (unhid HK)) ?_
        clear hSE hK K
        intro hSE
        (try simp only [Act.put, List.setIfInBounds_toArray, List.set_cons_zero, List.set_cons_succ])
        (refine WE_take (i := 12) (v := ?_) rfl (by kernel_rfl) (by decide) (by kernel_rfl) (by kernel_rfl) (fun _ _ _ h => h) (by rfl) hSE ?_ ?_; rotate_left; (focus (intro w hSw; (try dsimp only at hSw); go_simp; (try with_reducible rfl))); simp only [Act.put, List.setIfInBounds_toArray, List.set_cons_zero, List.set_cons_succ])
        (refine WE_last rfl (by kernel_rfl) (by kernel_rfl) (by kernel_rfl) ?_; intro K hK; go_simp; refine hK.out _ _ (NoPanic.normal ?_); clear hK K)
        clear hSE HSF
        go_wp2_with fail
        go_roundw
        case rel => exact ⟨i, h, rfl, rfl, unhid HN, unhid HK⟩
        case measure => have h1 := unhid HB3; simp [intOf]; omega
      · have HN := hid ((unhid HCUT).right ((unhid HIN).monoM (unhid HRL) (unhid HMID)) (by omega) (by omega) hp)
        have eax : ((mid : Int) + (m : Int) - 1 - (h : Int)).toNat = mid + m - 1 - h := by omega
        have pax : (0 : Int) ≤ (mid : Int) + (m : Int) - 1 - (h : Int) := by omega
        have bax : (mid : Int) + (m : Int) - 1 - (h : Int) < (d0.size : Int) := by omega
        have rax : IntKind.i64.wrap ((mid : Int) + (m : Int) - 1 - (h : Int)) = (mid : Int) + (m : Int) - 1 - (h : Int) := by rw [IntKind.wrap_i64]; omega
        have eay : ((h : Int)).toNat = h := by omega
        have pay : (0 : Int) ≤ (h : Int) := by omega
        have bay : (h : Int) < (d0.size : Int) := by omega
        have ray : IntKind.i64.wrap ((h : Int)) = (h : Int) := by rw [IntKind.wrap_i64]; omega
        have pax2 : (h : Int) ≤ (mid : Int) + (m : Int) - 1 := by omega
        obtain ⟨x, hx⟩ : ∃ x, x = d[mid + m - 1 - h]! := ⟨_, rfl⟩
        obtain ⟨y, hy⟩ : ∃ y, y = d[h]! := ⟨_, rfl⟩
        have HSF := hid (show ∀ w', SWK rcC 14 w0 blk off d w' → (w'.cell? ⟨blk, off + (mid + m - 1 - h) * 14, none⟩ = some (.int .i64 x.tab) ∧ w'.cell? ⟨blk, off + (mid + m - 1 - h) * 14 + 1, none⟩ = some (.int .i64 x.num) ∧ w'.cell? ⟨blk, off + (mid + m - 1 - h) * 14 + 2, none⟩ = some (.int .i64 x.hour) ∧ w'.cell? ⟨blk, off + (mid + m - 1 - h) * 14 + 3, none⟩ = some (.int .i64 x.sign) ∧ w'.cell? ⟨blk, off + (mid + m - 1 - h) * 14 + 4, none⟩ = some (.int .i64 x.fld) ∧ w'.cell? ⟨blk, off + (mid + m - 1 - h) * 14 + 5, none⟩ = some (.int .i64 x.val) ∧ w'.cell? ⟨blk, off + (mid + m - 1 - h) * 14 + 6, none⟩ = some (.int .i64 x.s0) ∧ w'.cell? ⟨blk, off + (mid + m - 1 - h) * 14 + 7, none⟩ = some (.int .i64 x.s1) ∧ w'.cell? ⟨blk, off + (mid + m - 1 - h) * 14 + 8, none⟩ = some (.int .i64 x.s2) ∧ w'.cell? ⟨blk, off + (mid + m - 1 - h) * 14 + 9, none⟩ = some (.int .i64 x.s3) ∧ w'.cell? ⟨blk, off + (mid + m - 1 - h) * 14 + 10, none⟩ = some (.int .i64 x.s4) ∧ w'.cell? ⟨blk, off + (mid + m - 1 - h) * 14 + 11, none⟩ = some (.int .i64 x.s5) ∧ w'.cell? ⟨blk, off + (mid + m - 1 - h) * 14 + 12, none⟩ = some (.int .i64 x.s6) ∧ w'.cell? ⟨blk, off + (mid + m - 1 - h) * 14 + 13, none⟩ = some (.int .i64 x.s7)) ∧ (w'.cell? ⟨blk, off + (h) * 14, none⟩ = some (.int .i64 y.tab) ∧ w'.cell? ⟨blk, off + (h) * 14 + 1, none⟩ = some (.int .i64 y.num) ∧ w'.cell? ⟨blk, off + (h) * 14 + 2, none⟩ = some (.int .i64 y.hour) ∧ w'.cell? ⟨blk, off + (h) * 14 + 3, none⟩ = some (.int .i64 y.sign) ∧ w'.cell? ⟨blk, off + (h) * 14 + 4, none⟩ = some (.int .i64 y.fld) ∧ w'.cell? ⟨blk, off + (h) * 14 + 5, none⟩ = some (.int .i64 y.val) ∧ w'.cell? ⟨blk, off + (h) * 14 + 6, none⟩ = some (.int .i64 y.s0) ∧ w'.cell? ⟨blk, off + (h) * 14 + 7, none⟩ = some (.int .i64 y.s1) ∧ w'.cell? ⟨blk, off + (h) * 14 + 8, none⟩ = some (.int .i64 y.s2) ∧ w'.cell? ⟨blk, off + (h) * 14 + 9, none⟩ = some (.int .i64 y.s3) ∧ w'.cell? ⟨blk, off + (h) * 14 + 10, none⟩ = some (.int .i64 y.s4) ∧ w'.cell? ⟨blk, off + (h) * 14 + 11, none⟩ = some (.int .i64 y.s5) ∧ w'.cell? ⟨blk, off + (h) * 14 + 12, none⟩ = some (.int .i64 y.s6) ∧ w'.cell? ⟨blk, off + (h) * 14 + 13, none⟩ = some (.int .i64 y.s7)) from fun w' hk => ⟨swk_cells14 (i := mid + m - 1 - h) hk (unhid HR) (by omega) (by omega) hx, swk_cells14 (i := h) hk (unhid HR) (by omega) (by omega) hy⟩)
        have hd : decide (hrI x y < 0) = false := decide_eq_false (by rw [hx, hy]; exact hp)
        clear hx hy hp
        go_wp2_with fail
        refine wp_region_noPanic ?_
        refine wp_region_E (S := fun w' => (w'.cell? ⟨blk, off + (mid + m - 1 - h) * 14, none⟩ = some (.int .i64 x.tab) ∧ w'.cell? ⟨blk, off + (mid + m - 1 - h) * 14 + 1, none⟩ = some (.int .i64 x.num) ∧ w'.cell? ⟨blk, off + (mid + m - 1 - h) * 14 + 2, none⟩ = some (.int .i64 x.hour) ∧ w'.cell? ⟨blk, off + (mid + m - 1 - h) * 14 + 3, none⟩ = some (.int .i64 x.sign) ∧ w'.cell? ⟨blk, off + (mid + m - 1 - h) * 14 + 4, none⟩ = some (.int .i64 x.fld) ∧ w'.cell? ⟨blk, off + (mid + m - 1 - h) * 14 + 5, none⟩ = some (.int .i64 x.val) ∧ w'.cell? ⟨blk, off + (mid + m - 1 - h) * 14 + 6, none⟩ = some (.int .i64 x.s0) ∧ w'.cell? ⟨blk, off + (mid + m - 1 - h) * 14 + 7, none⟩ = some (.int .i64 x.s1) ∧ w'.cell? ⟨blk, off + (mid + m - 1 - h) * 14 + 8, none⟩ = some (.int .i64 x.s2) ∧ w'.cell? ⟨blk, off + (mid + m - 1 - h) * 14 + 9, none⟩ = some (.int .i64 x.s3) ∧ w'.cell? ⟨blk, off + (mid + m - 1 - h) * 14 + 10, none⟩ = some (.int .i64 x.s4) ∧ w'.cell? ⟨blk, off + (mid + m - 1 - h) * 14 + 11, none⟩ = some (.int .i64 x.s5) ∧ w'.cell? ⟨blk, off + (mid + m - 1 - h) * 14 + 12, none⟩ = some (.int .i64 x.s6) ∧ w'.cell? ⟨blk, off + (mid + m - 1 - h) * 14 + 13, none⟩ = some (.int .i64 x.s7)) ∧ (w'.cell? ⟨blk, off + (h) * 14, none⟩ = some (.int .i64 y.tab) ∧ w'.cell? ⟨blk, off + (h) * 14 + 1, none⟩ = some (.int .i64 y.num) ∧ w'.cell? ⟨blk, off + (h) * 14 + 2, none⟩ = some (.int .i64 y.hour) ∧ w'.cell? ⟨blk, off + (h) * 14 + 3, none⟩ = some (.int .i64 y.sign) ∧ w'.cell? ⟨blk, off + (h) * 14 + 4, none⟩ = some (.int .i64 y.fld) ∧ w'.cell? ⟨blk, off + (h) * 14 + 5, none⟩ = some (.int .i64 y.val) ∧ w'.cell? ⟨blk, off + (h) * 14 + 6, none⟩ = some (.int .i64 y.s0) ∧ w'.cell? ⟨blk, off + (h) * 14 + 7, none⟩ = some (.int .i64 y.s1) ∧ w'.cell? ⟨blk, off + (h) * 14 + 8, none⟩ = some (.int .i64 y.s2) ∧ w'.cell? ⟨blk, off + (h) * 14 + 9, none⟩ = some (.int .i64 y.s3) ∧ w'.cell? ⟨blk, off + (h) * 14 + 10, none⟩ = some (.int .i64 y.s4) ∧ w'.cell? ⟨blk, off + (h) * 14 + 11, none⟩ = some (.int .i64 y.s5) ∧ w'.cell? ⟨blk, off + (h) * 14 + 12, none⟩ = some (.int .i64 y.s6) ∧ w'.cell? ⟨blk, off + (h) * 14 + 13, none⟩ = some (.int .i64 y.s7))) 13 14 rfl (by kernel_rfl) (by kernel_rfl) ((unhid HSF) _ (unhid HK).drew) ?_
        intro hSE
        have HK := hid (unhid HK).drew
        generalize wr.drew = Wd at *
        (refine WE_take (i := 0) (v := ?_) rfl (by kernel_rfl) (by decide) (by kernel_rfl) (by kernel_rfl) (fun _ _ _ h => h) (by rfl) hSE ?_ ?_; rotate_left; (focus (intro w hSw; (try dsimp only at hSw); go_simp; (try with_reducible rfl))); simp only [Act.put, List.setIfInBounds_toArray, List.set_cons_zero, List.set_cons_succ])
        (refine WE_take (i := 1) (v := ?_) rfl (by kernel_rfl) (by decide) (by kernel_rfl) (by kernel_rfl) (fun _ _ _ h => h) (by rfl) hSE ?_ ?_; rotate_left; (focus (intro w hSw; (try dsimp only at hSw); go_simp; (try with_reducible rfl))); simp only [Act.put, List.setIfInBounds_toArray, List.set_cons_zero, List.set_cons_succ])
        (refine WE_take (i := 2) (v := ?_) rfl (by kernel_rfl) (by decide) (by kernel_rfl) (by kernel_rfl) (fun _ _ _ h => h) (by rfl) hSE ?_ ?_; rotate_left; (focus (intro w hSw; (try dsimp only at hSw); go_simp; (try with_reducible rfl))); simp only [Act.put, List.setIfInBounds_toArray, List.set_cons_zero, List.set_cons_succ])
        (refine WE_take (i := 3) (v := ?_) rfl (by kernel_rfl) (by decide) (by kernel_rfl) (by kernel_rfl) (fun _ _ _ h => h) (by rfl) hSE ?_ ?_; rotate_left; (focus (intro w hSw; (try dsimp only at hSw); go_simp; (try with_reducible rfl))); simp only [Act.put, List.setIfInBounds_toArray, List.set_cons_zero, List.set_cons_succ])
        (refine WE_take (i := 4) (v := ?_) rfl (by kernel_rfl) (by decide) (by kernel_rfl) (by kernel_rfl) (fun _ _ _ h => h) (by rfl) hSE ?_ ?_; rotate_left; (focus (intro w hSw; (try dsimp only at hSw); go_simp; (try with_reducible rfl))); simp only [Act.put, List.setIfInBounds_toArray, List.set_cons_zero, List.set_cons_succ])
        (refine WE_take (i := 5) (v := ?_) rfl (by kernel_rfl) (by decide) (by kernel_rfl) (by kernel_rfl) (fun _ _ _ h => h) (by rfl) hSE ?_ ?_; rotate_left; (focus (intro w hSw; (try dsimp only at hSw); go_simp; (try with_reducible rfl))); simp only [Act.put, List.setIfInBounds_toArray, List.set_cons_zero, List.set_cons_succ])
        (refine WE_take (i := 6) (v := ?_) rfl (by kernel_rfl) (by decide) (by kernel_rfl) (by kernel_rfl) (fun _ _ _ h => h) (by rfl) hSE ?_ ?_; rotate_left; (focus (intro w hSw; (try dsimp only at hSw); go_simp; (try with_reducible rfl))); simp only [Act.put, List.setIfInBounds_toArray, List.set_cons_zero, List.set_cons_succ])
        (refine WE_take (i := 7) (v := ?_) rfl (by kernel_rfl) (by decide) (by kernel_rfl) (by kernel_rfl) (fun _ _ _ h => h) (by rfl) hSE ?_ ?_; rotate_left; (focus (intro w hSw; (try dsimp only at hSw); go_simp; (try with_reducible rfl))); simp only [Act.put, List.setIfInBounds_toArray, List.set_cons_zero, List.set_cons_succ])
        (refine WE_take (i := 8) (v := ?_) rfl (by kernel_rfl) (by decide) (by kernel_rfl) (by kernel_rfl) (fun _ _ _ h => h) (by rfl) hSE ?_ ?_; rotate_left; (focus (intro w hSw; (try dsimp only at hSw); go_simp; (try with_reducible rfl))); simp only [Act.put, List.setIfInBounds_toArray, List.set_cons_zero, List.set_cons_succ])
        (refine WE_take (i := 9) (v := ?_) rfl (by kernel_rfl) (by decide) (by kernel_rfl) (by kernel_rfl) (fun _ _ _ h => h) (by rfl) hSE ?_ ?_; rotate_left; (focus (intro w hSw; (try dsimp only at hSw); go_simp; (try with_reducible rfl))); simp only [Act.put, List.setIfInBounds_toArray, List.set_cons_zero, List.set_cons_succ])
        (refine WE_take (i := 10) (v := ?_) rfl (by kernel_rfl) (by decide) (by kernel_rfl) (by kernel_rfl) (fun _ _ _ h => h) (by rfl) hSE ?_ ?_; rotate_left; (focus (intro w hSw; (try dsimp only at hSw); go_simp; (try with_reducible rfl))); simp only [Act.put, List.setIfInBounds_toArray, List.set_cons_zero, List.set_cons_succ])
        (refine WE_one (i := 11) rfl (by decide) (by kernel_rfl) ?_; intro K hK)
        go_simp
        refine (byHourW_calls x y Wd).mono ?_
        rintro e wz ⟨rfl, nz, oz, rfl⟩
        have HK := hid ((unhid HK).grown nz oz)
        generalize grow (Wd.drewN nz) oz = w5 at *
        refine hK.out _ _ ((unhid HSF) _ (unhid HK)) ?_
        clear hSE hK K
        intro hSE
        (try simp only [Act.put, List.setIfInBounds_toArray, List.set_cons_zero, List.set_cons_succ])
        (refine WE_take (i := 12) (v := ?_) rfl (by kernel_rfl) (by decide) (by kernel_rfl) (by kernel_rfl) (fun _ _ _ h => h) (by rfl) hSE ?_ ?_; rotate_left; (focus (intro w hSw; (try dsimp only at hSw); go_simp; (try with_reducible rfl))); simp only [Act.put, List.setIfInBounds_toArray, List.set_cons_zero, List.set_cons_succ])
        (refine WE_last rfl (by kernel_rfl) (by kernel_rfl) (by kernel_rfl) ?_; intro K hK; go_simp; refine hK.out _ _ (NoPanic.normal ?_); clear hK K)
        clear hSE HSF
        go_wp2_with fail
        go_roundw
        case rel => exact ⟨h + 1, j, by go_num, rfl, unhid HN, unhid HK⟩
        case measure => have h1 := unhid HB3; simp [intOf]; omega
    · obtain rfl : i = j := by omega
      have hnn : ¬ (i : Int) < (i : Int) := by omega
      have hc := (unhid HCUT)
      have hMd := unhid HMID
      obtain ⟨q1, q2, q3, q4, q5⟩ := hMd
      clear hc
      have hbN : b - a ≤ N + 1 := (unhid HSZ).2.2.2.2.2
      by_cases g7 : i < m
      · by_cases g8 : m < mid + m - i
        · have c5 : (i : Int) < (m : Int) := by omega
          have c6 : (m : Int) < (mid : Int) + (m : Int) - (i : Int) := by omega
          go_wp2_with fail
          refine (rotate_calls (unhid HR) _ i m (mid + m - i) cap _ _ _ d wr (unhid HK) (unhid HSZ).2.1 (by omega) (by omega) (by omega) (unhid HSZ).1 rfl rfl (by omega)).mono ?_
          rintro e w5 ⟨rfl, d1, hrot, hk1⟩
          have HK := hid hk1
          clear hk1
          obtain ⟨hA, hB, hX⟩ := (unhid HIN).split (unhid HRL) (unhid HMID) (unhid HCUT) hrot (by have := (unhid HSZ).2.1; omega)
          have HA := hid hA
          have HB := hid hB
          have HX := hid hX
          have HROT := hid (⟨hrot.perm a b (by omega) (by omega) (by have := (unhid HSZ).2.1; omega), trivial⟩ : PermIn a b d _ ∧ True)
          have HSD := hid (show _ = d0.size from hrot.size.trans (unhid HSZ).2.1)
          clear hA hB hX hrot
          by_cases g5 : a < i
          · by_cases g6 : i < mid
            · have c1 : (a : Int) < (i : Int) := by omega
              have c2 : (i : Int) < (mid : Int) := by omega
              go_wp2_with fail
              refine ((unhid IH) a i mid _ _ _ _ _ (by omega) rfl rfl rfl (unhid HK) (unhid HSD) (by omega) (by omega) (by omega) (unhid HA)).mono ?_
              rintro e w6 ⟨rfl, d2, hm2, hk2⟩
              have HK := hid hk2
              have HM1 := hid hm2
              have HSD := hid (show d2.size = d0.size from hm2.perm.1.trans (unhid HSD))
              have HB := hid ((unhid HB).congr (fun t h1 h2 => hm2.perm.2.1 t (.inr h1)) (by omega) (by omega))
              clear hm2 hk2
              by_cases g3 : mid < mid + m - i
              · by_cases g4 : mid + m - i < b
                · have c3 : (mid : Int) < (mid : Int) + (m : Int) - (i : Int) := by omega
                  have c4 : (mid : Int) + (m : Int) - (i : Int) < (b : Int) := by omega
                  go_wp2_with fail
                  refine ((unhid IH) mid (mid + m - i) b _ _ _ _ _ (by omega) rfl (by omega) rfl (unhid HK) (unhid HSD) (by omega) (by omega) (by omega) (unhid HB)).mono ?_
                  rintro e w7 ⟨rfl, d3, hm3, hk3⟩
                  have HK := hid hk3
                  have HM2 := hid hm3
                  clear hm3 hk3
                  have HP := hid (show MgPost w0 blk off Rl a b d (.returned (.tuple #[])) _ from ⟨rfl, _, merged (unhid HROT).1 (unhid HX) (unhid HM1) (unhid HM2) (by omega) (by omega) (by have := (unhid HSZ).2.1; omega), unhid HK⟩)
                  go_wp2_with fail
                  go_end0
                  exact unhid HP
                · exfalso
                  omega
              · exfalso
                omega
            · exfalso
              omega
          · have c1 : ¬ (a : Int) < (i : Int) := by omega
            have HM1 := hid ((unhid HA).edge (by omega))
            by_cases g3 : mid < mid + m - i
            · by_cases g4 : mid + m - i < b
              · have c3 : (mid : Int) < (mid : Int) + (m : Int) - (i : Int) := by omega
                have c4 : (mid : Int) + (m : Int) - (i : Int) < (b : Int) := by omega
                go_wp2_with fail
                refine ((unhid IH) mid (mid + m - i) b _ _ _ _ _ (by omega) rfl (by omega) rfl (unhid HK) (unhid HSD) (by omega) (by omega) (by omega) (unhid HB)).mono ?_
                rintro e w7 ⟨rfl, d3, hm3, hk3⟩
                have HK := hid hk3
                have HM2 := hid hm3
                clear hm3 hk3
                have HP := hid (show MgPost w0 blk off Rl a b d (.returned (.tuple #[])) _ from ⟨rfl, _, merged (unhid HROT).1 (unhid HX) (unhid HM1) (unhid HM2) (by omega) (by omega) (by have := (unhid HSZ).2.1; omega), unhid HK⟩)
                go_wp2_with fail
                go_end0
                exact unhid HP
              · have c3 : (mid : Int) < (mid : Int) + (m : Int) - (i : Int) := by omega
                have c4 : ¬ (mid : Int) + (m : Int) - (i : Int) < (b : Int) := by omega
                have HM2 := hid ((unhid HB).edge (by omega))
                have HP := hid (show MgPost w0 blk off Rl a b d (.returned (.tuple #[])) _ from ⟨rfl, _, merged (unhid HROT).1 (unhid HX) (unhid HM1) (unhid HM2) (by omega) (by omega) (by have := (unhid HSZ).2.1; omega), unhid HK⟩)
                go_wp2_with fail
                go_end0
                exact unhid HP
            · exfalso
              omega
        · exfalso
          omega
      · have c5 : ¬ (i : Int) < (m : Int) := by omega
        have hrot : RotI d i m (mid + m - i) d := RotI.none d (by omega) (by omega) (by omega)
        obtain ⟨hA, hB, hX⟩ := (unhid HIN).split (unhid HRL) (unhid HMID) (unhid HCUT) hrot (by have := (unhid HSZ).2.1; omega)
        have HA := hid hA
        have HB := hid hB
        have HX := hid hX
        have HROT := hid (⟨hrot.perm a b (by omega) (by omega) (by have := (unhid HSZ).2.1; omega), trivial⟩ : PermIn a b d _ ∧ True)
        have HSD := hid (show _ = d0.size from hrot.size.trans (unhid HSZ).2.1)
        clear hA hB hX hrot
        by_cases g5 : a < i
        · by_cases g6 : i < mid
          · have c1 : (a : Int) < (i : Int) := by omega
            have c2 : (i : Int) < (mid : Int) := by omega
            go_wp2_with fail
            refine ((unhid IH) a i mid _ _ _ _ _ (by omega) rfl rfl rfl (unhid HK) (unhid HSD) (by omega) (by omega) (by omega) (unhid HA)).mono ?_
            rintro e w6 ⟨rfl, d2, hm2, hk2⟩
            have HK := hid hk2
            have HM1 := hid hm2
            have HSD := hid (show d2.size = d0.size from hm2.perm.1.trans (unhid HSD))
            have HB := hid ((unhid HB).congr (fun t h1 h2 => hm2.perm.2.1 t (.inr h1)) (by omega) (by omega))
            clear hm2 hk2
            by_cases g3 : mid < mid + m - i
            · by_cases g4 : mid + m - i < b
              · exfalso
                omega
              · exfalso
                omega
            · have c3 : ¬ (mid : Int) < (mid : Int) + (m : Int) - (i : Int) := by omega
              have HM2 := hid ((unhid HB).edge (by omega))
              have HP := hid (show MgPost w0 blk off Rl a b d (.returned (.tuple #[])) _ from ⟨rfl, _, merged (unhid HROT).1 (unhid HX) (unhid HM1) (unhid HM2) (by omega) (by omega) (by have := (unhid HSZ).2.1; omega), unhid HK⟩)
              go_wp2_with fail
              go_end0
              exact unhid HP
          · have c1 : (a : Int) < (i : Int) := by omega
            have c2 : ¬ (i : Int) < (mid : Int) := by omega
            have HM1 := hid ((unhid HA).edge (by omega))
            by_cases g3 : mid < mid + m - i
            · by_cases g4 : mid + m - i < b
              · exfalso
                omega
              · exfalso
                omega
            · have c3 : ¬ (mid : Int) < (mid : Int) + (m : Int) - (i : Int) := by omega
              have HM2 := hid ((unhid HB).edge (by omega))
              have HP := hid (show MgPost w0 blk off Rl a b d (.returned (.tuple #[])) _ from ⟨rfl, _, merged (unhid HROT).1 (unhid HX) (unhid HM1) (unhid HM2) (by omega) (by omega) (by have := (unhid HSZ).2.1; omega), unhid HK⟩)
              go_wp2_with fail
              go_end0
              exact unhid HP
        · exfalso
          omega

theorem symMerge_calls {w0 : World} {blk off : Nat} {d0 : Array Rc} (R : RowK rcC 14 w0 blk off d0) {Rl : Rc → Rc → Prop} (hRl : Strict Rl) (cap : Nat) (hsz : d0.size ≤ 1000000) : ∀ (N a m b : Nat) (ai mi bi : Int) (d : Array Rc) (w : World), b - a ≤ N → ai = (a : Int) → mi = (m : Int) → bi = (b : Int) → SWK rcC 14 w0 blk off d w → d.size = d0.size → a < m → m < b → b ≤ d0.size → MrgIn Rl hrI d a m b →
    Calls Tryz.prog 140 #[.slice (some ⟨blk, off, none⟩) d0.size cap, .int .i64 ai, .int .i64 mi, .int .i64 bi, .func (.func 83) #[] #[]] w fun e w' => MgPost w0 blk off Rl a b d e w' := by
  intro N
  induction N with
  | zero => intro a m b ai mi bi d w hN _ _ _ _ _ h1 h2; omega
  | succ N ih =>
    intro a m b ai mi bi d w hN hai hmi hbi h hs ham hmb hb hin
    subst hai hmi hbi
    by_cases h1 : m = a + 1
    · exact mg1_calls R hRl cap hsz N ih a m b d w hN h hs ham hmb hb hin h1
    · by_cases h2 : b = m + 1
      · exact mg2_calls R hRl cap hsz N ih a m b d w hN h hs ham hmb hb hin h1 h2
      · by_cases hmm : (a + b) / 2 < m
        · exact mg3_calls R hRl cap hsz N ih a m b d w hN h hs ham hmb hb hin h1 h2 _ rfl hmm
        · exact mg4_calls R hRl cap hsz N ih a m b d w hN h hs ham hmb hb hin h1 h2 _ rfl hmm
end

section
open Go.RowKit Go.Shelf Go.Sort

/-- By hour, and of one hour by the order of records. -/
def hlt (r q : Rc) : Bool := decide (r.hour < q.hour) || (decide (r.hour = q.hour) && rls r q)
theorem hlt_iff {r q : Rc} : hlt r q = true ↔ r.hour < q.hour ∨ (r.hour = q.hour ∧ rls r q = true) := by simp [hlt]
theorem hlt_irr (r : Rc) : hlt r r = false := by
  cases h : hlt r r with
  | false => rfl
  | true =>
    rcases hlt_iff.1 h with h | h
    · omega
    · rw [rls_irr] at h; cases h.2
theorem hlt_trans {a b c : Rc} (h1 : hlt a b = true) (h2 : hlt b c = true) : hlt a c = true := by
  rw [hlt_iff] at *
  rcases h1 with h1 | h1 <;> rcases h2 with h2 | h2
  · exact .inl (by omega)
  · exact .inl (by omega)
  · exact .inl (by omega)
  · exact .inr ⟨by omega, rls_trans h1.2 h2.2⟩
theorem hlt_total {a b : Rc} (h : a ≠ b) : hlt a b = true ∨ hlt b a = true := by
  rw [hlt_iff, hlt_iff]
  rcases Int.lt_trichotomy a.hour b.hour with h1 | h1 | h1
  · exact .inl (.inl h1)
  · rcases rls_total h with h2 | h2
    · exact .inl (.inr ⟨h1, h2⟩)
    · exact .inr (.inr ⟨h1.symm, h2⟩)
  · exact .inr (.inl h1)
theorem hlt_swo : SWO hlt where
  irrefl := hlt_irr
  trans := fun _ _ _ => hlt_trans
  ntrans := fun x y z h1 h2 => by
    cases h3 : hlt x z with
    | false => rfl
    | true =>
      by_cases e : x = y
      · rw [e, h2] at h3; cases h3
      · rcases hlt_total e with h | h
        · rw [h] at h1; cases h1
        · by_cases e2 : y = z
          · rw [← e2, h1] at h3; cases h3
          · rcases hlt_total e2 with h4 | h4
            · rw [h4] at h2; cases h2
            · have := hlt_trans (hlt_trans h4 h) h3
              rw [hlt_irr] at this; cases this
theorem hlt_strict : Strict fun x y => hlt x y = true := ⟨fun _ _ _ => hlt_trans, fun x h => by rw [hlt_irr] at h; cases h⟩
theorem hrI_is {r q : Rc} (hr : rcB r = true) (hq : rcB q = true) : hrI r q = r.hour - q.hour := by
  have h1 := (rc_ok hr).hour
  have h2 := (rc_ok hq).hour
  unfold hrI
  rw [IntKind.wrap_i64]
  omega
/-- The later of two that stand in their order: by hours and by all is the same. -/
theorem hr_same {r q : Rc} (hr : rcB r = true) (hq : rcB q = true) (h : rls r q = true) : ltOf hrI q r = hlt q r := by
  unfold ltOf hlt
  rw [hrI_is hq hr, rls_asymm h, Bool.and_false, Bool.or_false]
  exact decide_eq_decide.2 (by omega)

/-- All records of an array are valid and stand in their order. -/
structure AscA (d : Array Rc) : Prop where
  v : ∀ i, i < d.size → rcB d[i]! = true
  asc : ∀ i j, i < j → j < d.size → rls d[i]! d[j]! = true
/-- What the sort leaves. -/
structure StOut (d d' : Array Rc) : Prop where
  perm : PermIn 0 d.size d d'
  asc : ∀ i j, i < j → j < d.size → hlt d'[i]! d'[j]! = true
theorem ne_of_perm {d d' : Array Rc} (h : AscA d) (hp : PermIn 0 d.size d d') {i j : Nat} (hij : i < j) (hj : j < d.size) : d'[i]! ≠ d'[j]! := by
  have hsz := hp.1
  have hpl : d'.toList.Perm d.toList := by
    have h3 := hp.2.2
    rw [show d.size = d'.size from hsz.symm] at h3
    rw [Array.extract_size] at h3
    rw [hsz, Array.extract_size] at h3
    exact h3
  have hnd : d.toList.Nodup := by
    rw [List.Nodup, List.pairwise_iff_getElem]
    intro i j hi hj hij e
    have h1 := h.asc i j hij (by simpa using hj)
    rw [getElem!_pos d i (by simpa using hi), getElem!_pos d j (by simpa using hj)] at h1
    have e2 : d[i]'(by simpa using hi) = d[j]'(by simpa using hj) := by simpa using e
    rw [e2, rls_irr] at h1
    cases h1
  have hnd2 := hpl.nodup_iff.2 hnd
  intro e
  rw [getElem!_pos d' i (by omega), getElem!_pos d' j (by omega)] at e
  rw [List.Nodup, List.pairwise_iff_getElem] at hnd2
  exact hnd2 i j (by simp; omega) (by simp; omega) hij (by simpa using e)
/-- One block: the insertion sort. -/
theorem st_small {d : Array Rc} (h : AscA d) : StOut d (insertionSort (ltOf hrI) d 0 d.size) := by
  obtain ⟨hp, hs⟩ := insertion_stable (lt1 := ltOf hrI) hlt_swo d (Nat.zero_le _) (Nat.le_refl _) (fun q t _ ht hq => hr_same (h.v t (by omega)) (h.v q hq) (h.asc t q ht hq))
  refine ⟨hp, fun i j hij hj => ?_⟩
  have h1 := hs i j (Nat.zero_le _) hij hj
  rcases hlt_total (ne_of_perm h hp hij hj) with h2 | h2
  · exact h2
  · rw [h1] at h2; cases h2
/-- Two blocks, each sorted: ready for the merge. -/
theorem st_two {d : Array Rc} (h : AscA d) {m : Nat} (hm : m ≤ d.size) : PermIn 0 d.size d (insertionSort (ltOf hrI) (insertionSort (ltOf hrI) d 0 m) m d.size) ∧ MrgIn (fun x y => hlt x y = true) hrI (insertionSort (ltOf hrI) (insertionSort (ltOf hrI) d 0 m) m d.size) 0 m d.size := by
  obtain ⟨p1, s1⟩ := insertion_stable (lt1 := ltOf hrI) hlt_swo d (Nat.zero_le m) hm (fun q t _ ht hq => hr_same (h.v t (by omega)) (h.v q (by omega)) (h.asc t q ht (by omega)))
  obtain ⟨d1, hd1⟩ : ∃ d1, d1 = insertionSort (ltOf hrI) d 0 m := ⟨_, rfl⟩
  rw [← hd1] at p1 s1 ⊢
  have z1 := p1.1
  have keep : ∀ t, m ≤ t → d1[t]! = d[t]! := fun t ht => p1.2.1 t (.inr ht)
  obtain ⟨p2, s2⟩ := insertion_stable (lt1 := ltOf hrI) hlt_swo d1 hm (by omega) (fun q t ht1 ht hq => by
    rw [keep q (by omega), keep t ht1]
    exact hr_same (h.v t (by omega)) (h.v q (by omega)) (h.asc t q ht (by omega)))
  obtain ⟨d2, hd2⟩ : ∃ d2, d2 = insertionSort (ltOf hrI) d1 m d.size := ⟨_, rfl⟩
  rw [← hd2] at p2 s2 ⊢
  have z2 := p2.1
  have hp : PermIn 0 d.size d d2 := permIn_trans _ _ _ _ _ (permIn_mono d d1 0 m 0 d.size (Nat.le_refl _) hm (Nat.le_refl _) p1) (permIn_mono d1 d2 m d.size 0 d.size (Nat.zero_le _) (Nat.le_refl _) (by omega) p2)
  have low : ∀ t, t < m → d2[t]! = d1[t]! := fun t ht => p2.2.1 t (.inl ht)
  -- what stands on the left came from the left
  have cross : ∀ i j, i < m → m ≤ j → j < d.size → ltOf hrI d2[j]! d2[i]! = hlt d2[j]! d2[i]! := by
    intro i j hi hmj hj
    rw [low i hi]
    refine permIn_all d1 d2 m d.size (fun z => ltOf hrI z d1[i]! = hlt z d1[i]!) (by omega) p2 (fun y y1 y2 => ?_) j hmj hj
    rw [keep y y1]
    refine permIn_all d d1 0 m (fun z => ltOf hrI d[y]! z = hlt d[y]! z) hm p1 (fun x _ x2 => hr_same (h.v x (by omega)) (h.v y (by omega)) (h.asc x y (by omega) y2)) i (Nat.zero_le _) hi
  have tot : ∀ i j, i < j → j < d.size → hlt d2[j]! d2[i]! = false → hlt d2[i]! d2[j]! = true := fun i j hij hj h1 => by
    rcases hlt_total (ne_of_perm h hp hij hj) with h2 | h2
    · exact h2
    · rw [h1] at h2; cases h2
  refine ⟨hp, fun i j _ hij hj => ?_, fun i j hi hij hj => tot i j hij hj (s2 i j hi hij hj), fun i j _ hi hmj hj hl => ?_, fun i j _ hi hmj hj hl => ?_⟩
  · refine tot i j hij (by omega) ?_
    rw [low i (by omega), low j hj]
    exact s1 i j (Nat.zero_le _) hij hj
  · have := cross i j hi hmj hj
    rw [← this]
    exact decide_eq_true hl
  · refine tot i j (by omega) hj ?_
    rw [← cross i j hi hmj hj]
    exact decide_eq_false hl

theorem size_insInner {lt : Rc → Rc → Bool} (a : Nat) : ∀ (j : Nat) (d : Array Rc), (insInner lt a j d).size = d.size
  | 0, d => rfl
  | j + 1, d => by
    unfold insInner
    split
    · rw [size_insInner a j, size_swp]
    · rfl
theorem size_insOuter {lt : Rc → Rc → Bool} (a b : Nat) : ∀ (n i : Nat) (d : Array Rc), b - i = n → (insOuter lt a b i d).size = d.size
  | 0, i, d, h => by
    unfold insOuter
    rw [if_neg (by omega)]
  | n + 1, i, d, h => by
    unfold insOuter
    rw [if_pos (by omega), size_insOuter a b n (i + 1) _ (by omega), size_insInner]
/-- insertionSort at records, at a world of the sort's. -/
theorem insertion_calls {w0 : World} {blk off : Nat} {d0 : Array Rc} (R : RowK rcC 14 w0 blk off d0) (cap a b : Nat) (ai bi : Int) (d : Array Rc) (w : World) (h : SWK rcC 14 w0 blk off d w) (hs : d.size = d0.size) (hab : a ≤ b) (hb : b ≤ d0.size) (hsz : d0.size ≤ 1000000) (ha : ai = (a : Int)) (hbi : bi = (b : Int)) :
    Calls Tryz.prog 139 #[.slice (some ⟨blk, off, none⟩) d0.size cap, .int .i64 ai, .int .i64 bi, .func (.func 83) #[] #[]] w fun e w' => e = .returned (.tuple #[]) ∧ SWK rcC 14 w0 blk off (insertionSort (ltOf hrI) d a b) w' := by
  subst ha hbi
  have hsz1 : (insertionSort (ltOf hrI) d a b).size = d.size := size_insOuter a b (b - (a + 1)) (a + 1) d rfl
  have hcon := AnyQ.insertionSortCmpFunc (P := Tryz.prog) { Tryz.sortRec with } 14 Tryz.isAgg82 Tryz.sizeOf82 rcC (fun _ => rfl) (fun x v hv => rcC_one (l := [x]) v (by simpa [recs] using hv)) hrI 83 #[] blk off cap a b d w
    (fun args w => by simp [go_sem]) (hr_lays blk off d.size w) (h.holds R.hblk R.hH hs) (h.lt R.hblk) hab (by omega) (by omega)
  rw [hs] at hcon
  change Calls Tryz.prog 139 _ _ _ at hcon
  refine hcon.mono ?_
  rintro e w' ⟨rfl, n, os, rfl⟩
  exact ⟨rfl, h.on R.hblk n _ os hsz1⟩
end

section
open Go.RowKit Go.Shelf Go.Sort

def StPost (w0 : World) (blk off : Nat) (d : Array Rc) (e : Ending) (w' : World) : Prop := e = .returned (.tuple #[]) ∧ ∃ d', StOut d d' ∧ SWK rcC 14 w0 blk off d' w'
set_option maxHeartbeats 8000000 in
set_option maxRecDepth 100000 in
theorem stable_calls {w0 : World} {blk off : Nat} {d0 : Array Rc} (R : RowK rcC 14 w0 blk off d0) (cap : Nat) (d : Array Rc) (w : World) (h : SWK rcC 14 w0 blk off d w) (hs : d.size = d0.size) (hA : AscA d) (hn : d0.size < 40) :
    Calls Tryz.prog 111 #[.slice (some ⟨blk, off, none⟩) d0.size cap, .int .i64 d0.size, .func (.func 83) #[] #[]] w fun e w' => StPost w0 blk off d e w' := by
  have HR := hid R
  have HK := hid h
  have HS := hid hs
  have HA := hid hA
  clear h hA
  go_enter Tryz.func111, Tryz.ntmps111
  by_cases h20 : d0.size < 20
  · have c1 : ¬ (20 : Int) ≤ (d0.size : Int) := by omega
    have c2 : ¬ (20 : Int) < (d0.size : Int) := by omega
    have HO := hid (st_small (unhid HA))
    have HN := hid hn
    clear hs hn h20
    go_wp2_with fail
    refine wp_loop_rounds 1 ?_
    rw [rounds_succ]
    go_wp2_with fail
    refine (insertion_calls (unhid HR) cap 0 d0.size _ _ d w (unhid HK) (unhid HS) (Nat.zero_le _) (Nat.le_refl _) (by have := unhid HN; omega) rfl rfl).mono ?_
    rintro e w1 ⟨rfl, hk1⟩
    have HP := hid (show StPost w0 blk off d (.returned (.tuple #[])) w1 from ⟨rfl, _, unhid HO, by rw [unhid HS]; exact hk1⟩)
    clear hk1
    go_wp2_with fail
    refine wp_loop_rounds 1 ?_
    rw [rounds_succ]
    go_wp2_with fail
    go_end0
    exact unhid HP
  · have c1 : (20 : Int) ≤ (d0.size : Int) := by omega
    have c3 : ¬ (40 : Int) ≤ (d0.size : Int) := by omega
    have HL := hid (show 20 ≤ d0.size ∧ d0.size < 40 from by omega)
    have HT := hid (st_two (unhid HA) (m := 20) (by omega))
    clear hs hn h20
    go_wp2_with fail
    refine wp_loop_rounds 2 ?_
    rw [rounds_succ]
    go_wp2_with fail
    refine (insertion_calls (unhid HR) cap 0 20 _ _ d w (unhid HK) (unhid HS) (Nat.zero_le _) (unhid HL).1 (by have := unhid HL; omega) rfl rfl).mono ?_
    rintro e w1 ⟨rfl, hk1⟩
    have HK1 := hid hk1
    have HS1 := hid (show (insertionSort (ltOf hrI) d 0 20).size = d0.size from (size_insOuter 0 20 _ _ d rfl).trans (unhid HS))
    clear hk1
    go_wp2_with fail
    rw [rounds_succ]
    go_wp2_with fail
    refine (insertion_calls (unhid HR) cap 20 d0.size _ _ _ w1 (unhid HK1) (unhid HS1) (unhid HL).1 (Nat.le_refl _) (by have := unhid HL; omega) rfl rfl).mono ?_
    rintro e w2 ⟨rfl, hk2⟩
    have ht := unhid HT
    rw [unhid HS] at ht
    obtain ⟨d2, hd2⟩ : ∃ d2, d2 = insertionSort (ltOf hrI) (insertionSort (ltOf hrI) d 0 20) 20 d0.size := ⟨_, rfl⟩
    rw [← hd2] at ht hk2
    have HK2 := hid hk2
    have HT := hid ht
    clear hk2 ht hd2 HK1 HS1
    by_cases he : d0.size = 20
    · have c2 : ¬ (20 : Int) < (d0.size : Int) := by omega
      have HP := hid (show StPost w0 blk off d (.returned (.tuple #[])) w2 from ⟨rfl, d2, ⟨by rw [unhid HS]; exact (unhid HT).1, fun i j hij hj => ((unhid HT).2.edge (.inr he.symm)).asc i j (Nat.zero_le _) hij (by rw [← unhid HS]; exact hj)⟩, unhid HK2⟩)
      clear he
      go_wp2_with fail
      refine wp_loop_rounds 1 ?_
      rw [rounds_succ]
      go_wp2_with fail
      go_end0
      exact unhid HP
    · have c2 : (20 : Int) < (d0.size : Int) := by have := unhid HL; omega
      have c4 : ¬ (40 : Int) < (d0.size : Int) := by omega
      have HLT := hid (show 20 < d0.size from by have := unhid HL; omega)
      clear he
      go_wp2_with fail
      refine wp_loop_rounds 2 ?_
      rw [rounds_succ]
      go_wp2_with fail
      refine wp_loop_rounds 1 ?_
      rw [rounds_succ]
      go_wp2_with fail
      refine (symMerge_calls (unhid HR) hlt_strict cap (by have := unhid HL; omega) d0.size 0 20 d0.size _ _ _ d2 w2 (by omega) rfl rfl rfl (unhid HK2) ((unhid HT).1.1.trans (unhid HS)) (by omega) (unhid HLT) (Nat.le_refl _) (unhid HT).2).mono ?_
      rintro e w3 ⟨rfl, d3, ho, hk3⟩
      have HP := hid (show StPost w0 blk off d (.returned (.tuple #[])) w3 from ⟨rfl, d3, ⟨by rw [unhid HS]; exact permIn_trans _ _ _ _ _ (unhid HT).1 ho.perm, fun i j hij hj => ho.asc i j (Nat.zero_le _) hij (by rw [← unhid HS]; exact hj)⟩, hk3⟩)
      clear ho hk3
      go_wp2_with fail
      rw [rounds_succ]
      go_wp2_with fail
      go_end0
      exact unhid HP

set_option maxHeartbeats 4000000 in
set_option maxRecDepth 100000 in
theorem stableNil_calls (p : Option Addr) (cap : Nat) (fv : Value) (w : World) :
    Calls Tryz.prog 111 #[.slice p 0 cap, .int .i64 0, fv] w fun e w' => e = .returned (.tuple #[]) ∧ w' = w := by
  have hi := AnyF.insertionSortCmpFunc_none (P := Tryz.prog) { Tryz.sortRec with } p cap fv w
  change Calls Tryz.prog 139 _ _ _ at hi
  have HI := hid hi
  clear hi
  go_enter Tryz.func111, Tryz.ntmps111
  go_wp2_with fail
  refine wp_loop_rounds 1 ?_
  rw [rounds_succ]
  go_wp2_with fail
  refine (unhid HI).mono ?_
  rintro e w1 ⟨rfl, rfl⟩
  go_wp2_with fail
  refine wp_loop_rounds 1 ?_
  rw [rounds_succ]
  go_wp2_with fail
  go_end0
  exact ⟨rfl, rfl⟩

def SsPost (w : World) (base : Nat) (v : Value) (l : List Rc) (e : Ending) (w' : World) : Prop :=
  e = .returned (.tuple #[]) ∧ ∃ L : List Rc, L.Perm l ∧ L.Pairwise (fun a b => hlt a b = true) ∧ w'.ownsRow base 82 14 v L.length (recs L) ∧ w.grownBy w' v.ownBlock
theorem ascA_of {l : List Rc} (hv : ∀ r ∈ l, rcB r = true) (hA : Asc l) : AscA l.toArray := by
  refine ⟨fun i hi => ?_, fun i j hij hj => ?_⟩
  · rw [getElem!_pos l.toArray i hi]
    exact hv _ (by simp)
  · have hj' : j < l.length := by simpa using hj
    rw [getElem!_pos l.toArray i (by simp; omega), getElem!_pos l.toArray j hj]
    simpa using List.pairwise_iff_getElem.1 hA i j (by omega) hj' hij
set_option maxHeartbeats 4000000 in
set_option maxRecDepth 100000 in
theorem sortStable_calls (l : List Rc) (hv : ∀ r ∈ l, rcB r = true) (hA : Asc l) (hl : l.length < 40) (v : Value) (base : Nat) (w : World) (hown : w.ownsRow base 82 14 v l.length (recs l)) :
    Calls Tryz.prog 82 #[v, .func (.func 83) #[] #[]] w fun e w' => SsPost w base v l e w' := by
  have hown0 := hown
  obtain ⟨hlen, hform⟩ := hown
  by_cases h0 : l.length = 0
  · have hl0 : l = [] := List.eq_nil_of_length_eq_zero h0
    subst hl0
    have HE := hid (show ∀ w', w' = w → SsPost w base v [] (.returned (.tuple #[])) w' from fun w' e => by
      subst e
      exact ⟨rfl, [], List.Perm.nil, List.Pairwise.nil, hown0, World.grownBy.refl w' _⟩)
    obtain ⟨A, c, rfl, -, -⟩ := own_slice hown0
    have HN := hid (stableNil_calls A c (.func (.func 83) #[] #[]) w)
    clear hown0 hlen hform hA hv h0 hl
    change Calls Tryz.prog 82 #[.slice A 0 c, _] w _
    go_enter Tryz.func82, Tryz.ntmps82
    go_wp2_with fail
    refine (unhid HN).mono ?_
    rintro e w1 ⟨rfl, rfl⟩
    go_wp2_with fail
    go_end0
    exact unhid HE _ rfl
  · rcases hform with ⟨_, hn⟩ | ⟨b, cap, cur, rfl, hb, hh, hnc, hcap, hcs, htk⟩
    · exact absurd hn h0
    · have hblk : b < w.heap.size := (Array.getElem?_eq_some_iff.1 hh).1
      have hcur : l.length * 14 ≤ cur.size := by rw [hcs]; exact Nat.mul_le_mul_right 14 hnc
      have hF : (flatK rcC 14 l.toArray).toList = recs l := flatK_list rcC 14 (fun _ => rfl) l
      have hHolds : HoldsK rcC 14 w b 0 l.toArray := by
        intro j hj
        have hj' : j < l.length * 14 := by simpa using hj
        have hc1 : cur[j]? = (flatK rcC 14 l.toArray)[j]? := by
          rw [← Array.getElem?_toList, ← Array.getElem?_toList, hF, ← htk, List.getElem?_take_of_lt hj']
        refine ⟨?_, by simp [World.frozen?, hh]⟩
        rw [Nat.zero_add, cell_of_row w b j cur _ (0, 0) hh, hc1, Array.getElem?_eq_getElem hj, getElem!_pos (flatK rcC 14 l.toArray) j hj]; rfl
      have hR : RowK rcC 14 w b 0 l.toArray := ⟨fun _ => rfl, fun x v hv => rcC_one (l := [x]) v (by simpa [recs] using hv), hHolds, hblk⟩
      have hsz0 : l.toArray.size = l.length := by simp
      have hs := stable_calls hR cap l.toArray w (SWK.start hHolds) rfl (ascA_of hv hA) (by simpa using hl)
      rw [hsz0] at hs
      have hs2 : Calls Tryz.prog 111 #[.slice (some ⟨b, 0, none⟩) l.length cap, .int .i64 (l.length : Nat), .func (.func 83) #[] #[]] w fun e w' => SsPost w base (.slice (some ⟨b, 0, none⟩) l.length cap) l e w' := by
        refine hs.mono fun e' w' ⟨he, d', ho, hk⟩ => ⟨he, d'.toList, ?_, ?_, ?_, ?_⟩
        · have h3 := ho.perm.2.2
          have hsz : d'.size = l.length := by simpa using ho.perm.1
          have e1 : (d'.extract 0 l.toArray.size).toList = d'.toList := by rw [show l.toArray.size = d'.size by simp [hsz], Array.extract_size]
          have e2 : (l.toArray.extract 0 l.toArray.size).toList = l := by rw [Array.extract_size]
          rw [e1, e2] at h3
          exact h3
        · have hsz : d'.size = l.length := by simpa using ho.perm.1
          rw [List.pairwise_iff_getElem]
          intro i j hi hj hij
          have h4 := ho.asc i j hij (by simpa [hsz] using hj)
          rw [getElem!_pos d' i (by simpa using hi), getElem!_pos d' j (by simpa using hj)] at h4
          simpa using h4
        · obtain ⟨n, os, hw⟩ := hk
          have hsz : d'.size = l.length := by simpa using ho.perm.1
          have hflat : (flatK rcC 14 d').toList = recs d'.toList := by
            have := flatK_list rcC 14 (fun _ => rfl) d'.toList
            show _ = List.flatMap rcC d'.toList
            simpa using this
          refine ⟨by rw [recs_len], Or.inr ⟨b, cap, putCells id 0 (flatK rcC 14 d') cur, by simp [hsz], hb, ?_, by simpa [hsz] using hnc, hcap, ?_, ?_⟩⟩
          · rw [hw]
            show ((w.heap.modify b _) ++ os)[b]? = _
            rw [Array.getElem?_append_left (by simpa using hblk), Array.getElem?_modify, if_pos rfl, hh]
            rfl
          · simp [putCells, hcs]
          · have := putCells_take (flatK rcC 14 d') cur (by simpa [hsz] using hcur)
            rw [← hflat, ← this]
            congr 1
            simp [hsz]
        · obtain ⟨n, os, hw⟩ := hk
          rw [hw]
          exact sortWorldK_grownBy rcC 14 w b n d' os
      have HS := hid hs2
      clear hs hs2 hR hHolds hF hcur hcs htk hh hown0 hlen hA hv h0
      go_enter Tryz.func82, Tryz.ntmps82
      go_wp2_with fail
      refine (unhid HS).mono ?_
      rintro e w1 hp
      have HP := hid hp
      obtain ⟨rfl, -⟩ := hp
      go_wp2_with fail
      go_end0
      exact unhid HP
end

end Go.Proofs.YtegghimjmbgghaaGreat
