/-
  slices.SortStableFunc at records: symMerge.
-/
import Derived.Test.YtegghimjmbgghaaBkSx
set_option linter.unusedSimpArgs false
set_option linter.unusedVariables false
namespace Go.Proofs.Ytegghimjmbgghaa
open Go.RowKit Go.Shelf Go.Sort

theorem swk_grown14 {w0 W : World} {blk off i : Nat} {d0 dk : Array Rc} {x : Rc} (h : SWK rcC 14 w0 blk off dk W) (R : RowK rcC 14 w0 blk off d0) (hs : dk.size = d0.size) (hi : i < dk.size) (hx : x = dk[i]!) (n : Nat) (os : Array Obj) : (grow (W.drewN n) os).cell? ⟨blk, off + i * 14, none⟩ = some (.int .i64 x.tab) ∧ (grow (W.drewN n) os).cell? ⟨blk, off + i * 14 + 1, none⟩ = some (.int .i64 x.num) ∧ (grow (W.drewN n) os).cell? ⟨blk, off + i * 14 + 2, none⟩ = some (.int .i64 x.hour) ∧ (grow (W.drewN n) os).cell? ⟨blk, off + i * 14 + 3, none⟩ = some (.int .i64 x.sign) ∧ (grow (W.drewN n) os).cell? ⟨blk, off + i * 14 + 4, none⟩ = some (.int .i64 x.fld) ∧ (grow (W.drewN n) os).cell? ⟨blk, off + i * 14 + 5, none⟩ = some (.int .i64 x.val) ∧ (grow (W.drewN n) os).cell? ⟨blk, off + i * 14 + 6, none⟩ = some (.int .i64 x.s0) ∧ (grow (W.drewN n) os).cell? ⟨blk, off + i * 14 + 7, none⟩ = some (.int .i64 x.s1) ∧ (grow (W.drewN n) os).cell? ⟨blk, off + i * 14 + 8, none⟩ = some (.int .i64 x.s2) ∧ (grow (W.drewN n) os).cell? ⟨blk, off + i * 14 + 9, none⟩ = some (.int .i64 x.s3) ∧ (grow (W.drewN n) os).cell? ⟨blk, off + i * 14 + 10, none⟩ = some (.int .i64 x.s4) ∧ (grow (W.drewN n) os).cell? ⟨blk, off + i * 14 + 11, none⟩ = some (.int .i64 x.s5) ∧ (grow (W.drewN n) os).cell? ⟨blk, off + i * 14 + 12, none⟩ = some (.int .i64 x.s6) ∧ (grow (W.drewN n) os).cell? ⟨blk, off + i * 14 + 13, none⟩ = some (.int .i64 x.s7) := swk_cells14 (h.grown n os) R hs hi hx
theorem half_u64 {i j h : Nat} (hh : h = (i + j) / 2) : ((i : Int) + (j : Int)) / 2 = (h : Int) := by omega
/-- The tests of the binary searches. -/
def tst1 (d : Array Rc) (a t : Nat) : Prop := hrI d[t]! d[a]! < 0
def tst2 (d : Array Rc) (m t : Nat) : Prop := ¬ hrI d[m]! d[t]! < 0
def tst3 (d : Array Rc) (q c : Nat) : Prop := ¬ hrI d[q - c]! d[c]! < 0
def MgPost (w0 : World) (blk off : Nat) (Rl : Rc → Rc → Prop) (a b : Nat) (d : Array Rc) (e : Ending) (w' : World) : Prop := e = .returned (.tuple #[]) ∧ ∃ d', MrgOut Rl d a b d' ∧ SWK rcC 14 w0 blk off d' w'

set_option maxHeartbeats 8000000 in
set_option maxRecDepth 100000 in
theorem mg1_calls {w0 : World} {blk off : Nat} {d0 : Array Rc} (R : RowK rcC 14 w0 blk off d0) {Rl : Rc → Rc → Prop} (hRl : Strict Rl) (cap : Nat) (hsz : d0.size ≤ 1000000) (N : Nat) (ih : ∀ (a m b : Nat) (ai mi bi : Int) (d : Array Rc) (w : World), b - a ≤ N → ai = (a : Int) → mi = (m : Int) → bi = (b : Int) → SWK rcC 14 w0 blk off d w → d.size = d0.size → a < m → m < b → b ≤ d0.size → MrgIn Rl hrI d a m b →
    Calls Try.prog 158 #[.slice (some ⟨blk, off, none⟩) d0.size cap, .int .i64 ai, .int .i64 mi, .int .i64 bi, .func (.func 116) #[] #[]] w fun e w' => MgPost w0 blk off Rl a b d e w')
    (a m b : Nat) (d : Array Rc) (w : World) (hN : b - a ≤ N + 1) (h : SWK rcC 14 w0 blk off d w) (hs : d.size = d0.size) (ham : a < m) (hmb : m < b) (hb : b ≤ d0.size) (hin : MrgIn Rl hrI d a m b) (h1 : m = a + 1) :
    Calls Try.prog 158 #[.slice (some ⟨blk, off, none⟩) d0.size cap, .int .i64 (a : Int), .int .i64 (m : Int), .int .i64 (b : Int), .func (.func 116) #[] #[]] w fun e w' => MgPost w0 blk off Rl a b d e w' := by
  have mixed : Try.prog.follows .mixedOrders = true := by kernel_rfl
  have HR := hid R
  have HRL := hid hRl
  have HK := hid h
  have HIN := hid hin
  have IH := hid ih
  have HSZ := hid (show d0.size ≤ 1000000 ∧ d.size = d0.size ∧ b ≤ d0.size ∧ a < m ∧ m < b ∧ b - a ≤ N + 1 from ⟨hsz, hs, hb, ham, hmb, hN⟩)
  clear h hin ih
  go_enter Try.func158, Try.ntmps158
  have q1 : ((m : Int) - (a : Int) == 1) = true := beq_iff_eq.2 (by omega)
  have r1 : IntKind.i64.wrap ((m : Int) - (a : Int)) = (m : Int) - (a : Int) := by rw [IntKind.wrap_i64]; omega
  have HM := hid h1
  clear h1
  go_upto_region 3 with (fail)
  clear q1 r1
  go_loopw [10, 11] (fun iv jv wr => ∃ (i j : Nat), iv = .int .i64 i ∧ jv = .int .i64 j ∧ Cut (tst1 d a) (a + 1) b i j ∧ SWK rcC 14 w0 blk off d wr) (fun iv jv _ => (intOf jv).toNat - (intOf iv).toNat)
  case atStart => exact ⟨m, b, rfl, rfl, by rw [unhid HM]; exact Cut.start (by omega), unhid HK⟩
  case round =>
    clear HK
    obtain ⟨i, j, rfl, rfl, hcut, hk⟩ := hrel
    have HCUT := hid hcut
    have HK := hid hk
    have hb3 : (a + 1) ≤ i ∧ i ≤ j ∧ j ≤ b := ⟨hcut.li, hcut.ij, hcut.jh⟩
    clear hcut hk
    by_cases hlt : i < j
    · have hlti : (i : Int) < (j : Int) := by omega
      go_upto_region 5 with (fail)
      obtain ⟨h, hh⟩ : ∃ h, h = (i + j) / 2 := ⟨_, rfl⟩
      have hq := half_u64 hh
      rw [hq]
      have HB3 := hid (show i ≤ h ∧ h < j from by omega)
      have hb4 : i ≤ h ∧ h < j := unhid HB3
      clear hq hh
      by_cases hp : hrI d[h]! d[a]! < 0
      · have HN := hid ((unhid HCUT).right ((show MrgIn Rl hrI d a (a + 1) b from by have h1 := unhid HIN; rwa [unhid HM] at h1).mono1 (unhid HRL)) (by omega) (by omega) hp)
        have eax : ((h : Int)).toNat = h := by omega
        have pax : (0 : Int) ≤ (h : Int) := by omega
        have bax : (h : Int) < (d0.size : Int) := by omega
        have rax : IntKind.i64.wrap ((h : Int)) = (h : Int) := by rw [IntKind.wrap_i64]; omega
        have eay : ((a : Int)).toNat = a := by omega
        have pay : (0 : Int) ≤ (a : Int) := by omega
        have bay : (a : Int) < (d0.size : Int) := by omega
        have ray : IntKind.i64.wrap ((a : Int)) = (a : Int) := by rw [IntKind.wrap_i64]; omega
        obtain ⟨x, hx⟩ : ∃ x, x = d[h]! := ⟨_, rfl⟩
        obtain ⟨y, hy⟩ : ∃ y, y = d[a]! := ⟨_, rfl⟩
        have HSF := hid (show ∀ w', SWK rcC 14 w0 blk off d w' → (w'.cell? ⟨blk, off + (h) * 14, none⟩ = some (.int .i64 x.tab) ∧ w'.cell? ⟨blk, off + (h) * 14 + 1, none⟩ = some (.int .i64 x.num) ∧ w'.cell? ⟨blk, off + (h) * 14 + 2, none⟩ = some (.int .i64 x.hour) ∧ w'.cell? ⟨blk, off + (h) * 14 + 3, none⟩ = some (.int .i64 x.sign) ∧ w'.cell? ⟨blk, off + (h) * 14 + 4, none⟩ = some (.int .i64 x.fld) ∧ w'.cell? ⟨blk, off + (h) * 14 + 5, none⟩ = some (.int .i64 x.val) ∧ w'.cell? ⟨blk, off + (h) * 14 + 6, none⟩ = some (.int .i64 x.s0) ∧ w'.cell? ⟨blk, off + (h) * 14 + 7, none⟩ = some (.int .i64 x.s1) ∧ w'.cell? ⟨blk, off + (h) * 14 + 8, none⟩ = some (.int .i64 x.s2) ∧ w'.cell? ⟨blk, off + (h) * 14 + 9, none⟩ = some (.int .i64 x.s3) ∧ w'.cell? ⟨blk, off + (h) * 14 + 10, none⟩ = some (.int .i64 x.s4) ∧ w'.cell? ⟨blk, off + (h) * 14 + 11, none⟩ = some (.int .i64 x.s5) ∧ w'.cell? ⟨blk, off + (h) * 14 + 12, none⟩ = some (.int .i64 x.s6) ∧ w'.cell? ⟨blk, off + (h) * 14 + 13, none⟩ = some (.int .i64 x.s7)) ∧ (w'.cell? ⟨blk, off + (a) * 14, none⟩ = some (.int .i64 y.tab) ∧ w'.cell? ⟨blk, off + (a) * 14 + 1, none⟩ = some (.int .i64 y.num) ∧ w'.cell? ⟨blk, off + (a) * 14 + 2, none⟩ = some (.int .i64 y.hour) ∧ w'.cell? ⟨blk, off + (a) * 14 + 3, none⟩ = some (.int .i64 y.sign) ∧ w'.cell? ⟨blk, off + (a) * 14 + 4, none⟩ = some (.int .i64 y.fld) ∧ w'.cell? ⟨blk, off + (a) * 14 + 5, none⟩ = some (.int .i64 y.val) ∧ w'.cell? ⟨blk, off + (a) * 14 + 6, none⟩ = some (.int .i64 y.s0) ∧ w'.cell? ⟨blk, off + (a) * 14 + 7, none⟩ = some (.int .i64 y.s1) ∧ w'.cell? ⟨blk, off + (a) * 14 + 8, none⟩ = some (.int .i64 y.s2) ∧ w'.cell? ⟨blk, off + (a) * 14 + 9, none⟩ = some (.int .i64 y.s3) ∧ w'.cell? ⟨blk, off + (a) * 14 + 10, none⟩ = some (.int .i64 y.s4) ∧ w'.cell? ⟨blk, off + (a) * 14 + 11, none⟩ = some (.int .i64 y.s5) ∧ w'.cell? ⟨blk, off + (a) * 14 + 12, none⟩ = some (.int .i64 y.s6) ∧ w'.cell? ⟨blk, off + (a) * 14 + 13, none⟩ = some (.int .i64 y.s7)) from fun w' hk => ⟨swk_cells14 (i := h) hk (unhid HR) (by omega) (by omega) hx, swk_cells14 (i := a) hk (unhid HR) (by omega) (by omega) hy⟩)
        have hd : decide (hrI x y < 0) = true := decide_eq_true (by rw [hx, hy]; exact hp)
        clear hx hy hp
        go_wp2_with fail
        refine wp_region_noPanic ?_
        refine wp_region_E (S := fun w' => (w'.cell? ⟨blk, off + (h) * 14, none⟩ = some (.int .i64 x.tab) ∧ w'.cell? ⟨blk, off + (h) * 14 + 1, none⟩ = some (.int .i64 x.num) ∧ w'.cell? ⟨blk, off + (h) * 14 + 2, none⟩ = some (.int .i64 x.hour) ∧ w'.cell? ⟨blk, off + (h) * 14 + 3, none⟩ = some (.int .i64 x.sign) ∧ w'.cell? ⟨blk, off + (h) * 14 + 4, none⟩ = some (.int .i64 x.fld) ∧ w'.cell? ⟨blk, off + (h) * 14 + 5, none⟩ = some (.int .i64 x.val) ∧ w'.cell? ⟨blk, off + (h) * 14 + 6, none⟩ = some (.int .i64 x.s0) ∧ w'.cell? ⟨blk, off + (h) * 14 + 7, none⟩ = some (.int .i64 x.s1) ∧ w'.cell? ⟨blk, off + (h) * 14 + 8, none⟩ = some (.int .i64 x.s2) ∧ w'.cell? ⟨blk, off + (h) * 14 + 9, none⟩ = some (.int .i64 x.s3) ∧ w'.cell? ⟨blk, off + (h) * 14 + 10, none⟩ = some (.int .i64 x.s4) ∧ w'.cell? ⟨blk, off + (h) * 14 + 11, none⟩ = some (.int .i64 x.s5) ∧ w'.cell? ⟨blk, off + (h) * 14 + 12, none⟩ = some (.int .i64 x.s6) ∧ w'.cell? ⟨blk, off + (h) * 14 + 13, none⟩ = some (.int .i64 x.s7)) ∧ (w'.cell? ⟨blk, off + (a) * 14, none⟩ = some (.int .i64 y.tab) ∧ w'.cell? ⟨blk, off + (a) * 14 + 1, none⟩ = some (.int .i64 y.num) ∧ w'.cell? ⟨blk, off + (a) * 14 + 2, none⟩ = some (.int .i64 y.hour) ∧ w'.cell? ⟨blk, off + (a) * 14 + 3, none⟩ = some (.int .i64 y.sign) ∧ w'.cell? ⟨blk, off + (a) * 14 + 4, none⟩ = some (.int .i64 y.fld) ∧ w'.cell? ⟨blk, off + (a) * 14 + 5, none⟩ = some (.int .i64 y.val) ∧ w'.cell? ⟨blk, off + (a) * 14 + 6, none⟩ = some (.int .i64 y.s0) ∧ w'.cell? ⟨blk, off + (a) * 14 + 7, none⟩ = some (.int .i64 y.s1) ∧ w'.cell? ⟨blk, off + (a) * 14 + 8, none⟩ = some (.int .i64 y.s2) ∧ w'.cell? ⟨blk, off + (a) * 14 + 9, none⟩ = some (.int .i64 y.s3) ∧ w'.cell? ⟨blk, off + (a) * 14 + 10, none⟩ = some (.int .i64 y.s4) ∧ w'.cell? ⟨blk, off + (a) * 14 + 11, none⟩ = some (.int .i64 y.s5) ∧ w'.cell? ⟨blk, off + (a) * 14 + 12, none⟩ = some (.int .i64 y.s6) ∧ w'.cell? ⟨blk, off + (a) * 14 + 13, none⟩ = some (.int .i64 y.s7))) 10 11 rfl (by kernel_rfl) (by kernel_rfl) ((unhid HSF) _ (unhid HK).drew) ?_
        intro hSE
        have HK := hid (unhid HK).drew
        generalize wr.drew = Wd at *
        (refine WE_take (i := 0) (v := ?_) rfl (by kernel_rfl) (by decide) (by kernel_rfl) (by kernel_rfl) (fun _ _ _ h => h) (by rfl) hSE ?_ ?_; rotate_left; (focus (intro w hSw; (try dsimp only at hSw); go_simp; (try with_reducible rfl))); simp only [Act.put, List.setIfInBounds_toArray, List.set_cons_zero, List.set_cons_succ])
        (refine WE_take (i := 1) (v := ?_) rfl (by kernel_rfl) (by decide) (by kernel_rfl) (by kernel_rfl) (fun _ _ _ h => h) (by rfl) hSE ?_ ?_; rotate_left; (focus (intro w hSw; (try dsimp only at hSw); go_simp; (try with_reducible rfl))); simp only [Act.put, List.setIfInBounds_toArray, List.set_cons_zero, List.set_cons_succ])
        (refine WE_take (i := 2) (v := ?_) rfl (by kernel_rfl) (by decide) (by kernel_rfl) (by kernel_rfl) (fun _ _ _ h => h) (by rfl) hSE ?_ ?_; rotate_left; (focus (intro w hSw; (try dsimp only at hSw); go_simp; (try with_reducible rfl))); simp only [Act.put, List.setIfInBounds_toArray, List.set_cons_zero, List.set_cons_succ])
        (refine WE_take (i := 3) (v := ?_) rfl (by kernel_rfl) (by decide) (by kernel_rfl) (by kernel_rfl) (fun _ _ _ h => h) (by rfl) hSE ?_ ?_; rotate_left; (focus (intro w hSw; (try dsimp only at hSw); go_simp; (try with_reducible rfl))); simp only [Act.put, List.setIfInBounds_toArray, List.set_cons_zero, List.set_cons_succ])
        (refine WE_take (i := 4) (v := ?_) rfl (by kernel_rfl) (by decide) (by kernel_rfl) (by kernel_rfl) (fun _ _ _ h => h) (by rfl) hSE ?_ ?_; rotate_left; (focus (intro w hSw; (try dsimp only at hSw); go_simp; (try with_reducible rfl))); simp only [Act.put, List.setIfInBounds_toArray, List.set_cons_zero, List.set_cons_succ])
        (refine WE_take (i := 5) (v := ?_) rfl (by kernel_rfl) (by decide) (by kernel_rfl) (by kernel_rfl) (fun _ _ _ h => h) (by rfl) hSE ?_ ?_; rotate_left; (focus (intro w hSw; (try dsimp only at hSw); go_simp; (try with_reducible rfl))); simp only [Act.put, List.setIfInBounds_toArray, List.set_cons_zero, List.set_cons_succ])
        (refine WE_take (i := 6) (v := ?_) rfl (by kernel_rfl) (by decide) (by kernel_rfl) (by kernel_rfl) (fun _ _ _ h => h) (by rfl) hSE ?_ ?_; rotate_left; (focus (intro w hSw; (try dsimp only at hSw); go_simp; (try with_reducible rfl))); simp only [Act.put, List.setIfInBounds_toArray, List.set_cons_zero, List.set_cons_succ])
        (refine WE_take (i := 7) (v := ?_) rfl (by kernel_rfl) (by decide) (by kernel_rfl) (by kernel_rfl) (fun _ _ _ h => h) (by rfl) hSE ?_ ?_; rotate_left; (focus (intro w hSw; (try dsimp only at hSw); go_simp; (try with_reducible rfl))); simp only [Act.put, List.setIfInBounds_toArray, List.set_cons_zero, List.set_cons_succ])
        (refine WE_take (i := 8) (v := ?_) rfl (by kernel_rfl) (by decide) (by kernel_rfl) (by kernel_rfl) (fun _ _ _ h => h) (by rfl) hSE ?_ ?_; rotate_left; (focus (intro w hSw; (try dsimp only at hSw); go_simp; (try with_reducible rfl))); simp only [Act.put, List.setIfInBounds_toArray, List.set_cons_zero, List.set_cons_succ])
        (refine WE_one (i := 9) rfl (by decide) (by kernel_rfl) ?_; intro K hK)
        go_simp
        refine (byHourW_calls x y Wd).mono ?_
        rintro e wz ⟨rfl, nz, oz, rfl⟩
        have HK := hid ((unhid HK).grown nz oz)
        generalize grow (Wd.drewN nz) oz = w5 at *
        refine hK.out _ _ ((unhid HSF) _ (unhid HK)) ?_
        clear hSE hK K
        intro hSE
        (try simp only [Act.put, List.setIfInBounds_toArray, List.set_cons_zero, List.set_cons_succ])
        (refine WE_last rfl (by kernel_rfl) (by kernel_rfl) (by kernel_rfl) ?_; intro K hK; go_simp; refine hK.out _ _ (NoPanic.normal ?_); clear hK K)
        clear hSE HSF
        go_wp2_with fail
        go_roundw
        case rel => exact ⟨h + 1, j, by go_num, rfl, unhid HN, unhid HK⟩
        case measure => have h1 := unhid HB3; simp [intOf]; omega
      · have HN := hid ((unhid HCUT).left ((show MrgIn Rl hrI d a (a + 1) b from by have h1 := unhid HIN; rwa [unhid HM] at h1).mono1 (unhid HRL)) (by omega) (by omega) hp)
        have eax : ((h : Int)).toNat = h := by omega
        have pax : (0 : Int) ≤ (h : Int) := by omega
        have bax : (h : Int) < (d0.size : Int) := by omega
        have rax : IntKind.i64.wrap ((h : Int)) = (h : Int) := by rw [IntKind.wrap_i64]; omega
        have eay : ((a : Int)).toNat = a := by omega
        have pay : (0 : Int) ≤ (a : Int) := by omega
        have bay : (a : Int) < (d0.size : Int) := by omega
        have ray : IntKind.i64.wrap ((a : Int)) = (a : Int) := by rw [IntKind.wrap_i64]; omega
        obtain ⟨x, hx⟩ : ∃ x, x = d[h]! := ⟨_, rfl⟩
        obtain ⟨y, hy⟩ : ∃ y, y = d[a]! := ⟨_, rfl⟩
        have HSF := hid (show ∀ w', SWK rcC 14 w0 blk off d w' → (w'.cell? ⟨blk, off + (h) * 14, none⟩ = some (.int .i64 x.tab) ∧ w'.cell? ⟨blk, off + (h) * 14 + 1, none⟩ = some (.int .i64 x.num) ∧ w'.cell? ⟨blk, off + (h) * 14 + 2, none⟩ = some (.int .i64 x.hour) ∧ w'.cell? ⟨blk, off + (h) * 14 + 3, none⟩ = some (.int .i64 x.sign) ∧ w'.cell? ⟨blk, off + (h) * 14 + 4, none⟩ = some (.int .i64 x.fld) ∧ w'.cell? ⟨blk, off + (h) * 14 + 5, none⟩ = some (.int .i64 x.val) ∧ w'.cell? ⟨blk, off + (h) * 14 + 6, none⟩ = some (.int .i64 x.s0) ∧ w'.cell? ⟨blk, off + (h) * 14 + 7, none⟩ = some (.int .i64 x.s1) ∧ w'.cell? ⟨blk, off + (h) * 14 + 8, none⟩ = some (.int .i64 x.s2) ∧ w'.cell? ⟨blk, off + (h) * 14 + 9, none⟩ = some (.int .i64 x.s3) ∧ w'.cell? ⟨blk, off + (h) * 14 + 10, none⟩ = some (.int .i64 x.s4) ∧ w'.cell? ⟨blk, off + (h) * 14 + 11, none⟩ = some (.int .i64 x.s5) ∧ w'.cell? ⟨blk, off + (h) * 14 + 12, none⟩ = some (.int .i64 x.s6) ∧ w'.cell? ⟨blk, off + (h) * 14 + 13, none⟩ = some (.int .i64 x.s7)) ∧ (w'.cell? ⟨blk, off + (a) * 14, none⟩ = some (.int .i64 y.tab) ∧ w'.cell? ⟨blk, off + (a) * 14 + 1, none⟩ = some (.int .i64 y.num) ∧ w'.cell? ⟨blk, off + (a) * 14 + 2, none⟩ = some (.int .i64 y.hour) ∧ w'.cell? ⟨blk, off + (a) * 14 + 3, none⟩ = some (.int .i64 y.sign) ∧ w'.cell? ⟨blk, off + (a) * 14 + 4, none⟩ = some (.int .i64 y.fld) ∧ w'.cell? ⟨blk, off + (a) * 14 + 5, none⟩ = some (.int .i64 y.val) ∧ w'.cell? ⟨blk, off + (a) * 14 + 6, none⟩ = some (.int .i64 y.s0) ∧ w'.cell? ⟨blk, off + (a) * 14 + 7, none⟩ = some (.int .i64 y.s1) ∧ w'.cell? ⟨blk, off + (a) * 14 + 8, none⟩ = some (.int .i64 y.s2) ∧ w'.cell? ⟨blk, off + (a) * 14 + 9, none⟩ = some (.int .i64 y.s3) ∧ w'.cell? ⟨blk, off + (a) * 14 + 10, none⟩ = some (.int .i64 y.s4) ∧ w'.cell? ⟨blk, off + (a) * 14 + 11, none⟩ = some (.int .i64 y.s5) ∧ w'.cell? ⟨blk, off + (a) * 14 + 12, none⟩ = some (.int .i64 y.s6) ∧ w'.cell? ⟨blk, off + (a) * 14 + 13, none⟩ = some (.int .i64 y.s7)) from fun w' hk => ⟨swk_cells14 (i := h) hk (unhid HR) (by omega) (by omega) hx, swk_cells14 (i := a) hk (unhid HR) (by omega) (by omega) hy⟩)
        have hd : decide (hrI x y < 0) = false := decide_eq_false (by rw [hx, hy]; exact hp)
        clear hx hy hp
        go_wp2_with fail
        refine wp_region_noPanic ?_
        refine wp_region_E (S := fun w' => (w'.cell? ⟨blk, off + (h) * 14, none⟩ = some (.int .i64 x.tab) ∧ w'.cell? ⟨blk, off + (h) * 14 + 1, none⟩ = some (.int .i64 x.num) ∧ w'.cell? ⟨blk, off + (h) * 14 + 2, none⟩ = some (.int .i64 x.hour) ∧ w'.cell? ⟨blk, off + (h) * 14 + 3, none⟩ = some (.int .i64 x.sign) ∧ w'.cell? ⟨blk, off + (h) * 14 + 4, none⟩ = some (.int .i64 x.fld) ∧ w'.cell? ⟨blk, off + (h) * 14 + 5, none⟩ = some (.int .i64 x.val) ∧ w'.cell? ⟨blk, off + (h) * 14 + 6, none⟩ = some (.int .i64 x.s0) ∧ w'.cell? ⟨blk, off + (h) * 14 + 7, none⟩ = some (.int .i64 x.s1) ∧ w'.cell? ⟨blk, off + (h) * 14 + 8, none⟩ = some (.int .i64 x.s2) ∧ w'.cell? ⟨blk, off + (h) * 14 + 9, none⟩ = some (.int .i64 x.s3) ∧ w'.cell? ⟨blk, off + (h) * 14 + 10, none⟩ = some (.int .i64 x.s4) ∧ w'.cell? ⟨blk, off + (h) * 14 + 11, none⟩ = some (.int .i64 x.s5) ∧ w'.cell? ⟨blk, off + (h) * 14 + 12, none⟩ = some (.int .i64 x.s6) ∧ w'.cell? ⟨blk, off + (h) * 14 + 13, none⟩ = some (.int .i64 x.s7)) ∧ (w'.cell? ⟨blk, off + (a) * 14, none⟩ = some (.int .i64 y.tab) ∧ w'.cell? ⟨blk, off + (a) * 14 + 1, none⟩ = some (.int .i64 y.num) ∧ w'.cell? ⟨blk, off + (a) * 14 + 2, none⟩ = some (.int .i64 y.hour) ∧ w'.cell? ⟨blk, off + (a) * 14 + 3, none⟩ = some (.int .i64 y.sign) ∧ w'.cell? ⟨blk, off + (a) * 14 + 4, none⟩ = some (.int .i64 y.fld) ∧ w'.cell? ⟨blk, off + (a) * 14 + 5, none⟩ = some (.int .i64 y.val) ∧ w'.cell? ⟨blk, off + (a) * 14 + 6, none⟩ = some (.int .i64 y.s0) ∧ w'.cell? ⟨blk, off + (a) * 14 + 7, none⟩ = some (.int .i64 y.s1) ∧ w'.cell? ⟨blk, off + (a) * 14 + 8, none⟩ = some (.int .i64 y.s2) ∧ w'.cell? ⟨blk, off + (a) * 14 + 9, none⟩ = some (.int .i64 y.s3) ∧ w'.cell? ⟨blk, off + (a) * 14 + 10, none⟩ = some (.int .i64 y.s4) ∧ w'.cell? ⟨blk, off + (a) * 14 + 11, none⟩ = some (.int .i64 y.s5) ∧ w'.cell? ⟨blk, off + (a) * 14 + 12, none⟩ = some (.int .i64 y.s6) ∧ w'.cell? ⟨blk, off + (a) * 14 + 13, none⟩ = some (.int .i64 y.s7))) 10 11 rfl (by kernel_rfl) (by kernel_rfl) ((unhid HSF) _ (unhid HK).drew) ?_
        intro hSE
        have HK := hid (unhid HK).drew
        generalize wr.drew = Wd at *
        (refine WE_take (i := 0) (v := ?_) rfl (by kernel_rfl) (by decide) (by kernel_rfl) (by kernel_rfl) (fun _ _ _ h => h) (by rfl) hSE ?_ ?_; rotate_left; (focus (intro w hSw; (try dsimp only at hSw); go_simp; (try with_reducible rfl))); simp only [Act.put, List.setIfInBounds_toArray, List.set_cons_zero, List.set_cons_succ])
        (refine WE_take (i := 1) (v := ?_) rfl (by kernel_rfl) (by decide) (by kernel_rfl) (by kernel_rfl) (fun _ _ _ h => h) (by rfl) hSE ?_ ?_; rotate_left; (focus (intro w hSw; (try dsimp only at hSw); go_simp; (try with_reducible rfl))); simp only [Act.put, List.setIfInBounds_toArray, List.set_cons_zero, List.set_cons_succ])
        (refine WE_take (i := 2) (v := ?_) rfl (by kernel_rfl) (by decide) (by kernel_rfl) (by kernel_rfl) (fun _ _ _ h => h) (by rfl) hSE ?_ ?_; rotate_left; (focus (intro w hSw; (try dsimp only at hSw); go_simp; (try with_reducible rfl))); simp only [Act.put, List.setIfInBounds_toArray, List.set_cons_zero, List.set_cons_succ])
        (refine WE_take (i := 3) (v := ?_) rfl (by kernel_rfl) (by decide) (by kernel_rfl) (by kernel_rfl) (fun _ _ _ h => h) (by rfl) hSE ?_ ?_; rotate_left; (focus (intro w hSw; (try dsimp only at hSw); go_simp; (try with_reducible rfl))); simp only [Act.put, List.setIfInBounds_toArray, List.set_cons_zero, List.set_cons_succ])
        (refine WE_take (i := 4) (v := ?_) rfl (by kernel_rfl) (by decide) (by kernel_rfl) (by kernel_rfl) (fun _ _ _ h => h) (by rfl) hSE ?_ ?_; rotate_left; (focus (intro w hSw; (try dsimp only at hSw); go_simp; (try with_reducible rfl))); simp only [Act.put, List.setIfInBounds_toArray, List.set_cons_zero, List.set_cons_succ])
        (refine WE_take (i := 5) (v := ?_) rfl (by kernel_rfl) (by decide) (by kernel_rfl) (by kernel_rfl) (fun _ _ _ h => h) (by rfl) hSE ?_ ?_; rotate_left; (focus (intro w hSw; (try dsimp only at hSw); go_simp; (try with_reducible rfl))); simp only [Act.put, List.setIfInBounds_toArray, List.set_cons_zero, List.set_cons_succ])
        (refine WE_take (i := 6) (v := ?_) rfl (by kernel_rfl) (by decide) (by kernel_rfl) (by kernel_rfl) (fun _ _ _ h => h) (by rfl) hSE ?_ ?_; rotate_left; (focus (intro w hSw; (try dsimp only at hSw); go_simp; (try with_reducible rfl))); simp only [Act.put, List.setIfInBounds_toArray, List.set_cons_zero, List.set_cons_succ])
        (refine WE_take (i := 7) (v := ?_) rfl (by kernel_rfl) (by decide) (by kernel_rfl) (by kernel_rfl) (fun _ _ _ h => h) (by rfl) hSE ?_ ?_; rotate_left; (focus (intro w hSw; (try dsimp only at hSw); go_simp; (try with_reducible rfl))); simp only [Act.put, List.setIfInBounds_toArray, List.set_cons_zero, List.set_cons_succ])
        (refine WE_take (i := 8) (v := ?_) rfl (by kernel_rfl) (by decide) (by kernel_rfl) (by kernel_rfl) (fun _ _ _ h => h) (by rfl) hSE ?_ ?_; rotate_left; (focus (intro w hSw; (try dsimp only at hSw); go_simp; (try with_reducible rfl))); simp only [Act.put, List.setIfInBounds_toArray, List.set_cons_zero, List.set_cons_succ])
        (refine WE_one (i := 9) rfl (by decide) (by kernel_rfl) ?_; intro K hK)
        go_simp
        refine (byHourW_calls x y Wd).mono ?_
        rintro e wz ⟨rfl, nz, oz, rfl⟩
        have HK := hid ((unhid HK).grown nz oz)
        generalize grow (Wd.drewN nz) oz = w5 at *
        refine hK.out _ _ ((unhid HSF) _ (unhid HK)) ?_
        clear hSE hK K
        intro hSE
        (try simp only [Act.put, List.setIfInBounds_toArray, List.set_cons_zero, List.set_cons_succ])
        (refine WE_last rfl (by kernel_rfl) (by kernel_rfl) (by kernel_rfl) ?_; intro K hK; go_simp; refine hK.out _ _ (NoPanic.normal ?_); clear hK K)
        clear hSE HSF
        go_wp2_with fail
        go_roundw
        case rel => exact ⟨i, h, rfl, rfl, unhid HN, unhid HK⟩
        case measure => have h1 := unhid HB3; simp [intOf]; omega
    · obtain rfl : i = j := by omega
      have hnn : ¬ (i : Int) < (i : Int) := by omega
      go_upto_region 9 with (fail)
      go_loopw [13] (fun kv wr => ∃ (k : Nat) (dk : Array Rc), kv = .int .i64 k ∧ a ≤ k ∧ k + 1 ≤ i ∧ RotI d a (a + 1) (k + 1) dk ∧ SWK rcC 14 w0 blk off dk wr) (fun kv _ => i - (intOf kv).toNat)
      case atStart => exact ⟨a, d, rfl, Nat.le_refl _, by omega, RotI.none d (.inr rfl) (by omega) (Nat.le_refl _), unhid HK⟩
      case round =>
        clear HK
        obtain ⟨k, dk, rfl, hk1, hk2, hrot, hk⟩ := hrel
        have HROT := hid hrot
        have HK := hid hk
        have hds : dk.size = d0.size := hrot.size.trans (unhid HSZ).2.1
        clear hrot hk
        by_cases hki : k + 1 < i
        · have hkii : (k : Int) < (i : Int) - 1 := by omega
          have HN := hid ((unhid HROT).up hk1 (by have := (unhid HSZ).2.1; omega))
          have eax : ((k : Int)).toNat = k := by omega
          have pax : (0 : Int) ≤ (k : Int) := by omega
          have bax : (k : Int) < (d0.size : Int) := by omega
          have rax : IntKind.i64.wrap ((k : Int)) = (k : Int) := by rw [IntKind.wrap_i64]; omega
          have eay : ((k : Int) + 1).toNat = k + 1 := by omega
          have pay : (0 : Int) ≤ (k : Int) + 1 := by omega
          have bay : (k : Int) + 1 < (d0.size : Int) := by omega
          have ray : IntKind.i64.wrap ((k : Int) + 1) = (k : Int) + 1 := by rw [IntKind.wrap_i64]; omega
          obtain ⟨x, hx⟩ : ∃ x, x = dk[k]! := ⟨_, rfl⟩
          obtain ⟨y, hy⟩ : ∃ y, y = dk[k + 1]! := ⟨_, rfl⟩
          obtain ⟨x0, x1, x2, x3, x4, x5, x6, x7, x8, x9, x10, x11, x12, x13⟩ := swk_cells14 (i := k) (unhid HK).drew (unhid HR) (by omega) (by omega) hx
          obtain ⟨y0, y1, y2, y3, y4, y5, y6, y7, y8, y9, y10, y11, y12, y13⟩ := swk_cells14 (i := k + 1) (unhid HK).drew (unhid HR) (by omega) (by omega) hy
          obtain ⟨W1, W2, sa, sb, s2⟩ : ∃ W1 W2, Sem.run Try.prog (storeCells ⟨blk, off + (k) * 14, none⟩ (rcC y) 0) wr.drew = .ok () W1 ∧ Sem.run Try.prog (storeCells ⟨blk, off + (k + 1) * 14, none⟩ (rcC x) 0) W1 = .ok () W2 ∧ SWK rcC 14 w0 blk off (swp dk (k) (k + 1)) W2 := by
            refine ⟨_, _, (unhid HK).st1 (unhid HR) (by omega) Try.prog (k) (by omega) y, (unhid HK).st2 (unhid HR) (by omega) Try.prog (k) (k + 1) (by omega) (by omega) y x, ?_⟩
            rw [hx, hy]
            exact (unhid HK).swapped (unhid HR) (k) (k + 1) (by omega) (by omega)
          have S2 := hid s2
          clear s2
          clear HK hx hy
          go_wp2_with fail
          refine wp_region_noPanic ?_
          refine wp_region_E (S := fun _ => True) 17 18 rfl (by kernel_rfl) (by kernel_rfl) trivial ?_
          intro hSE
          generalize wr.drew = Wd at *
          (refine WE_take (i := 0) (v := ?_) rfl (by kernel_rfl) (by decide) (by kernel_rfl) (by kernel_rfl) (fun _ _ _ h => h) (by rfl) hSE ?_ ?_; rotate_left; (focus (intro w hSw; (try dsimp only at hSw); go_simp; (try with_reducible rfl))); simp only [Act.put, List.setIfInBounds_toArray, List.set_cons_zero, List.set_cons_succ])
          (refine WE_take (i := 1) (v := ?_) rfl (by kernel_rfl) (by decide) (by kernel_rfl) (by kernel_rfl) (fun _ _ _ h => h) (by rfl) hSE ?_ ?_; rotate_left; (focus (intro w hSw; (try dsimp only at hSw); go_simp; (try with_reducible rfl))); simp only [Act.put, List.setIfInBounds_toArray, List.set_cons_zero, List.set_cons_succ])
          (refine WE_take (i := 2) (v := ?_) rfl (by kernel_rfl) (by decide) (by kernel_rfl) (by kernel_rfl) (fun _ _ _ h => h) (by rfl) hSE ?_ ?_; rotate_left; (focus (intro w hSw; (try dsimp only at hSw); go_simp; (try with_reducible rfl))); simp only [Act.put, List.setIfInBounds_toArray, List.set_cons_zero, List.set_cons_succ])
          (refine WE_take (i := 3) (v := ?_) rfl (by kernel_rfl) (by decide) (by kernel_rfl) (by kernel_rfl) (fun _ _ _ h => h) (by rfl) hSE ?_ ?_; rotate_left; (focus (intro w hSw; (try dsimp only at hSw); go_simp; (try with_reducible rfl))); simp only [Act.put, List.setIfInBounds_toArray, List.set_cons_zero, List.set_cons_succ])
          (refine WE_take (i := 4) (v := ?_) rfl (by kernel_rfl) (by decide) (by kernel_rfl) (by kernel_rfl) (fun _ _ _ h => h) (by rfl) hSE ?_ ?_; rotate_left; (focus (intro w hSw; (try dsimp only at hSw); go_simp; (try with_reducible rfl))); simp only [Act.put, List.setIfInBounds_toArray, List.set_cons_zero, List.set_cons_succ])
          (refine WE_take (i := 5) (v := ?_) rfl (by kernel_rfl) (by decide) (by kernel_rfl) (by kernel_rfl) (fun _ _ _ h => h) (by rfl) hSE ?_ ?_; rotate_left; (focus (intro w hSw; (try dsimp only at hSw); go_simp; (try with_reducible rfl))); simp only [Act.put, List.setIfInBounds_toArray, List.set_cons_zero, List.set_cons_succ])
          (refine WE_take (i := 6) (v := ?_) rfl (by kernel_rfl) (by decide) (by kernel_rfl) (by kernel_rfl) (fun _ _ _ h => h) (by rfl) hSE ?_ ?_; rotate_left; (focus (intro w hSw; (try dsimp only at hSw); go_simp; (try with_reducible rfl))); simp only [Act.put, List.setIfInBounds_toArray, List.set_cons_zero, List.set_cons_succ])
          (refine WE_take (i := 7) (v := ?_) rfl (by kernel_rfl) (by decide) (by kernel_rfl) (by kernel_rfl) (fun _ _ _ h => h) (by rfl) hSE ?_ ?_; rotate_left; (focus (intro w hSw; (try dsimp only at hSw); go_simp; (try with_reducible rfl))); simp only [Act.put, List.setIfInBounds_toArray, List.set_cons_zero, List.set_cons_succ])
          (refine WE_take (i := 8) (v := ?_) rfl (by kernel_rfl) (by decide) (by kernel_rfl) (by kernel_rfl) (fun _ _ _ h => h) (by rfl) hSE ?_ ?_; rotate_left; (focus (intro w hSw; (try dsimp only at hSw); go_simp; (try with_reducible rfl))); simp only [Act.put, List.setIfInBounds_toArray, List.set_cons_zero, List.set_cons_succ])
          (refine WE_take (i := 10) (v := ?_) rfl (by kernel_rfl) (by decide) (by kernel_rfl) (by kernel_rfl) (fun _ _ _ h => h) (by rfl) hSE ?_ ?_; rotate_left; (focus (intro w hSw; (try dsimp only at hSw); go_simp; (try with_reducible rfl))); simp only [Act.put, List.setIfInBounds_toArray, List.set_cons_zero, List.set_cons_succ])
          (refine WE_take (i := 11) (v := ?_) rfl (by kernel_rfl) (by decide) (by kernel_rfl) (by kernel_rfl) (fun _ _ _ h => h) (by rfl) hSE ?_ ?_; rotate_left; (focus (intro w hSw; (try dsimp only at hSw); go_simp; (try with_reducible rfl))); simp only [Act.put, List.setIfInBounds_toArray, List.set_cons_zero, List.set_cons_succ])
          (refine WE_take (i := 12) (v := ?_) rfl (by kernel_rfl) (by decide) (by kernel_rfl) (by kernel_rfl) (fun _ _ _ h => h) (by rfl) hSE ?_ ?_; rotate_left; (focus (intro w hSw; (try dsimp only at hSw); go_simp; (try with_reducible rfl))); simp only [Act.put, List.setIfInBounds_toArray, List.set_cons_zero, List.set_cons_succ])
          refine WE_two (i := 9) (j := 13) rfl rfl (by decide) (by decide) (by kernel_rfl) ?_ ?_
          · intro K hK
            go_simp
            refine hK.out _ _ trivial ?_
            clear hSE hK K
            intro hSE
            (try simp only [Act.put, List.setIfInBounds_toArray, List.set_cons_zero, List.set_cons_succ])
            (refine WE_one (i := 13) rfl (by decide) (by kernel_rfl) ?_; intro K hK)
            go_simp
            refine hK.out _ _ trivial ?_
            clear hSE hK K
            intro hSE
            (try simp only [Act.put, List.setIfInBounds_toArray, List.set_cons_zero, List.set_cons_succ])
            (refine WE_one (i := 14) rfl (by decide) (by kernel_rfl) ?_; intro K hK)
            go_simp
            refine hK.out _ _ trivial ?_
            clear hSE hK K
            intro hSE
            (try simp only [Act.put, List.setIfInBounds_toArray, List.set_cons_zero, List.set_cons_succ])
            (refine WE_one (i := 15) rfl (by decide) (by kernel_rfl) ?_; intro K hK)
            rw [if_pos (by rfl)]
            refine wp_store_mid 33 (.tmp 75) (.tmp 70) rfl ⟨blk, off + (k) * 14, none⟩ (rcA y) _ rfl rfl (rc_size y) sa ?_
            refine hK.out _ _ trivial ?_
            clear hSE hK K
            intro hSE
            (try simp only [Act.put, List.setIfInBounds_toArray, List.set_cons_zero, List.set_cons_succ])
            (refine WE_one (i := 16) rfl (by decide) (by kernel_rfl) ?_; intro K hK)
            go_simp
            refine hK.out _ _ trivial ?_
            clear hSE hK K
            intro hSE
            (try simp only [Act.put, List.setIfInBounds_toArray, List.set_cons_zero, List.set_cons_succ])
            refine WE_last rfl (by kernel_rfl) (by kernel_rfl) (by kernel_rfl) ?_
            intro K hK
            rw [if_pos (by rfl)]
            refine wp_store_mid 33 (.tmp 76) (.tmp 74) rfl ⟨blk, off + (k + 1) * 14, none⟩ (rcA x) _ rfl rfl (rc_size x) sb ?_
            refine hK.out _ _ (NoPanic.normal ?_)
            clear hK K
            clear hSE sa sb x0 x1 x2 x3 x4 x5 x6 x7 x8 x9 x10 x11 x12 x13 y0 y1 y2 y3 y4 y5 y6 y7 y8 y9 y10 y11 y12 y13
            go_wp2_with fail
            go_roundw
            case rel => exact ⟨k + 1, _, by go_num, by omega, by omega, unhid HN, unhid S2⟩
            case measure => simp [intOf]; omega
          · intro K hK
            go_simp
            refine hK.out _ _ trivial ?_
            clear hSE hK K
            intro hSE
            (try simp only [Act.put, List.setIfInBounds_toArray, List.set_cons_zero, List.set_cons_succ])
            (refine WE_one (i := 9) rfl (by decide) (by kernel_rfl) ?_; intro K hK)
            go_simp
            refine hK.out _ _ trivial ?_
            clear hSE hK K
            intro hSE
            (try simp only [Act.put, List.setIfInBounds_toArray, List.set_cons_zero, List.set_cons_succ])
            (refine WE_one (i := 14) rfl (by decide) (by kernel_rfl) ?_; intro K hK)
            go_simp
            refine hK.out _ _ trivial ?_
            clear hSE hK K
            intro hSE
            (try simp only [Act.put, List.setIfInBounds_toArray, List.set_cons_zero, List.set_cons_succ])
            (refine WE_one (i := 15) rfl (by decide) (by kernel_rfl) ?_; intro K hK)
            rw [if_pos (by rfl)]
            refine wp_store_mid 33 (.tmp 75) (.tmp 70) rfl ⟨blk, off + (k) * 14, none⟩ (rcA y) _ rfl rfl (rc_size y) sa ?_
            refine hK.out _ _ trivial ?_
            clear hSE hK K
            intro hSE
            (try simp only [Act.put, List.setIfInBounds_toArray, List.set_cons_zero, List.set_cons_succ])
            (refine WE_one (i := 16) rfl (by decide) (by kernel_rfl) ?_; intro K hK)
            go_simp
            refine hK.out _ _ trivial ?_
            clear hSE hK K
            intro hSE
            (try simp only [Act.put, List.setIfInBounds_toArray, List.set_cons_zero, List.set_cons_succ])
            refine WE_last rfl (by kernel_rfl) (by kernel_rfl) (by kernel_rfl) ?_
            intro K hK
            rw [if_pos (by rfl)]
            refine wp_store_mid 33 (.tmp 76) (.tmp 74) rfl ⟨blk, off + (k + 1) * 14, none⟩ (rcA x) _ rfl rfl (rc_size x) sb ?_
            refine hK.out _ _ (NoPanic.normal ?_)
            clear hK K
            clear hSE sa sb x0 x1 x2 x3 x4 x5 x6 x7 x8 x9 x10 x11 x12 x13 y0 y1 y2 y3 y4 y5 y6 y7 y8 y9 y10 y11 y12 y13
            go_wp2_with fail
            go_roundw
            case rel => exact ⟨k + 1, _, by go_num, by omega, by omega, unhid HN, unhid S2⟩
            case measure => simp [intOf]; omega
        · have hkii : ¬ (k : Int) < (i : Int) - 1 := by omega
          obtain rfl : i = k + 1 := by omega
          have HP := hid (show MgPost w0 blk off Rl a b d (.returned (.tuple #[])) wr from ⟨rfl, dk, (show MrgIn Rl hrI d a (a + 1) b from by have h1 := unhid HIN; rwa [unhid HM] at h1).one1 (unhid HCUT) (unhid HROT) (by have := (unhid HSZ).2.1; omega), unhid HK⟩)
          go_wp2_with fail
          go_end0
          exact unhid HP

set_option maxHeartbeats 8000000 in
set_option maxRecDepth 100000 in
theorem mg2_calls {w0 : World} {blk off : Nat} {d0 : Array Rc} (R : RowK rcC 14 w0 blk off d0) {Rl : Rc → Rc → Prop} (hRl : Strict Rl) (cap : Nat) (hsz : d0.size ≤ 1000000) (N : Nat) (ih : ∀ (a m b : Nat) (ai mi bi : Int) (d : Array Rc) (w : World), b - a ≤ N → ai = (a : Int) → mi = (m : Int) → bi = (b : Int) → SWK rcC 14 w0 blk off d w → d.size = d0.size → a < m → m < b → b ≤ d0.size → MrgIn Rl hrI d a m b →
    Calls Try.prog 158 #[.slice (some ⟨blk, off, none⟩) d0.size cap, .int .i64 ai, .int .i64 mi, .int .i64 bi, .func (.func 116) #[] #[]] w fun e w' => MgPost w0 blk off Rl a b d e w')
    (a m b : Nat) (d : Array Rc) (w : World) (hN : b - a ≤ N + 1) (h : SWK rcC 14 w0 blk off d w) (hs : d.size = d0.size) (ham : a < m) (hmb : m < b) (hb : b ≤ d0.size) (hin : MrgIn Rl hrI d a m b) (h1 : ¬ m = a + 1) (h2 : b = m + 1) :
    Calls Try.prog 158 #[.slice (some ⟨blk, off, none⟩) d0.size cap, .int .i64 (a : Int), .int .i64 (m : Int), .int .i64 (b : Int), .func (.func 116) #[] #[]] w fun e w' => MgPost w0 blk off Rl a b d e w' := by
  have mixed : Try.prog.follows .mixedOrders = true := by kernel_rfl
  have HR := hid R
  have HRL := hid hRl
  have HK := hid h
  have HIN := hid hin
  have IH := hid ih
  have HSZ := hid (show d0.size ≤ 1000000 ∧ d.size = d0.size ∧ b ≤ d0.size ∧ a < m ∧ m < b ∧ b - a ≤ N + 1 from ⟨hsz, hs, hb, ham, hmb, hN⟩)
  clear h hin ih
  go_enter Try.func158, Try.ntmps158
  have q1 : ((m : Int) - (a : Int) == 1) = false := beq_eq_false_iff_ne.2 (by omega)
  have r1 : IntKind.i64.wrap ((m : Int) - (a : Int)) = (m : Int) - (a : Int) := by rw [IntKind.wrap_i64]; omega
  have q2 : ((b : Int) - (m : Int) == 1) = true := beq_iff_eq.2 (by omega)
  have r2 : IntKind.i64.wrap ((b : Int) - (m : Int)) = (b : Int) - (m : Int) := by rw [IntKind.wrap_i64]; omega
  have HM := hid h2
  clear h2
  go_upto_region 15 with (fail)
  clear q1 r1 q2 r2
  go_loopw [14, 15] (fun iv jv wr => ∃ (i j : Nat), iv = .int .i64 i ∧ jv = .int .i64 j ∧ Cut (tst2 d m) a m i j ∧ SWK rcC 14 w0 blk off d wr) (fun iv jv _ => (intOf jv).toNat - (intOf iv).toNat)
  case atStart => exact ⟨a, m, rfl, rfl, Cut.start (by omega), unhid HK⟩
  case round =>
    clear HK
    obtain ⟨i, j, rfl, rfl, hcut, hk⟩ := hrel
    have HCUT := hid hcut
    have HK := hid hk
    have hb3 : a ≤ i ∧ i ≤ j ∧ j ≤ m := ⟨hcut.li, hcut.ij, hcut.jh⟩
    clear hcut hk
    by_cases hlt : i < j
    · have hlti : (i : Int) < (j : Int) := by omega
      go_upto_region 17 with (fail)
      obtain ⟨h, hh⟩ : ∃ h, h = (i + j) / 2 := ⟨_, rfl⟩
      have hq := half_u64 hh
      rw [hq]
      have HB3 := hid (show i ≤ h ∧ h < j from by omega)
      have hb4 : i ≤ h ∧ h < j := unhid HB3
      clear hq hh
      by_cases hp : hrI d[m]! d[h]! < 0
      · have HN := hid ((unhid HCUT).left ((show MrgIn Rl hrI d a m (m + 1) from by have h1 := unhid HIN; rwa [unhid HM] at h1).mono2 (unhid HRL)) (by omega) (by omega) (fun hn => hn hp))
        have eax : ((m : Int)).toNat = m := by omega
        have pax : (0 : Int) ≤ (m : Int) := by omega
        have bax : (m : Int) < (d0.size : Int) := by omega
        have rax : IntKind.i64.wrap ((m : Int)) = (m : Int) := by rw [IntKind.wrap_i64]; omega
        have eay : ((h : Int)).toNat = h := by omega
        have pay : (0 : Int) ≤ (h : Int) := by omega
        have bay : (h : Int) < (d0.size : Int) := by omega
        have ray : IntKind.i64.wrap ((h : Int)) = (h : Int) := by rw [IntKind.wrap_i64]; omega
        obtain ⟨x, hx⟩ : ∃ x, x = d[m]! := ⟨_, rfl⟩
        obtain ⟨y, hy⟩ : ∃ y, y = d[h]! := ⟨_, rfl⟩
        have HSF := hid (show ∀ w', SWK rcC 14 w0 blk off d w' → (w'.cell? ⟨blk, off + (m) * 14, none⟩ = some (.int .i64 x.tab) ∧ w'.cell? ⟨blk, off + (m) * 14 + 1, none⟩ = some (.int .i64 x.num) ∧ w'.cell? ⟨blk, off + (m) * 14 + 2, none⟩ = some (.int .i64 x.hour) ∧ w'.cell? ⟨blk, off + (m) * 14 + 3, none⟩ = some (.int .i64 x.sign) ∧ w'.cell? ⟨blk, off + (m) * 14 + 4, none⟩ = some (.int .i64 x.fld) ∧ w'.cell? ⟨blk, off + (m) * 14 + 5, none⟩ = some (.int .i64 x.val) ∧ w'.cell? ⟨blk, off + (m) * 14 + 6, none⟩ = some (.int .i64 x.s0) ∧ w'.cell? ⟨blk, off + (m) * 14 + 7, none⟩ = some (.int .i64 x.s1) ∧ w'.cell? ⟨blk, off + (m) * 14 + 8, none⟩ = some (.int .i64 x.s2) ∧ w'.cell? ⟨blk, off + (m) * 14 + 9, none⟩ = some (.int .i64 x.s3) ∧ w'.cell? ⟨blk, off + (m) * 14 + 10, none⟩ = some (.int .i64 x.s4) ∧ w'.cell? ⟨blk, off + (m) * 14 + 11, none⟩ = some (.int .i64 x.s5) ∧ w'.cell? ⟨blk, off + (m) * 14 + 12, none⟩ = some (.int .i64 x.s6) ∧ w'.cell? ⟨blk, off + (m) * 14 + 13, none⟩ = some (.int .i64 x.s7)) ∧ (w'.cell? ⟨blk, off + (h) * 14, none⟩ = some (.int .i64 y.tab) ∧ w'.cell? ⟨blk, off + (h) * 14 + 1, none⟩ = some (.int .i64 y.num) ∧ w'.cell? ⟨blk, off + (h) * 14 + 2, none⟩ = some (.int .i64 y.hour) ∧ w'.cell? ⟨blk, off + (h) * 14 + 3, none⟩ = some (.int .i64 y.sign) ∧ w'.cell? ⟨blk, off + (h) * 14 + 4, none⟩ = some (.int .i64 y.fld) ∧ w'.cell? ⟨blk, off + (h) * 14 + 5, none⟩ = some (.int .i64 y.val) ∧ w'.cell? ⟨blk, off + (h) * 14 + 6, none⟩ = some (.int .i64 y.s0) ∧ w'.cell? ⟨blk, off + (h) * 14 + 7, none⟩ = some (.int .i64 y.s1) ∧ w'.cell? ⟨blk, off + (h) * 14 + 8, none⟩ = some (.int .i64 y.s2) ∧ w'.cell? ⟨blk, off + (h) * 14 + 9, none⟩ = some (.int .i64 y.s3) ∧ w'.cell? ⟨blk, off + (h) * 14 + 10, none⟩ = some (.int .i64 y.s4) ∧ w'.cell? ⟨blk, off + (h) * 14 + 11, none⟩ = some (.int .i64 y.s5) ∧ w'.cell? ⟨blk, off + (h) * 14 + 12, none⟩ = some (.int .i64 y.s6) ∧ w'.cell? ⟨blk, off + (h) * 14 + 13, none⟩ = some (.int .i64 y.s7)) from fun w' hk => ⟨swk_cells14 (i := m) hk (unhid HR) (by omega) (by omega) hx, swk_cells14 (i := h) hk (unhid HR) (by omega) (by omega) hy⟩)
        have hd : decide (hrI x y < 0) = true := decide_eq_true (by rw [hx, hy]; exact hp)
        clear hx hy hp
        go_wp2_with fail
        refine wp_region_noPanic ?_
        refine wp_region_E (S := fun w' => (w'.cell? ⟨blk, off + (m) * 14, none⟩ = some (.int .i64 x.tab) ∧ w'.cell? ⟨blk, off + (m) * 14 + 1, none⟩ = some (.int .i64 x.num) ∧ w'.cell? ⟨blk, off + (m) * 14 + 2, none⟩ = some (.int .i64 x.hour) ∧ w'.cell? ⟨blk, off + (m) * 14 + 3, none⟩ = some (.int .i64 x.sign) ∧ w'.cell? ⟨blk, off + (m) * 14 + 4, none⟩ = some (.int .i64 x.fld) ∧ w'.cell? ⟨blk, off + (m) * 14 + 5, none⟩ = some (.int .i64 x.val) ∧ w'.cell? ⟨blk, off + (m) * 14 + 6, none⟩ = some (.int .i64 x.s0) ∧ w'.cell? ⟨blk, off + (m) * 14 + 7, none⟩ = some (.int .i64 x.s1) ∧ w'.cell? ⟨blk, off + (m) * 14 + 8, none⟩ = some (.int .i64 x.s2) ∧ w'.cell? ⟨blk, off + (m) * 14 + 9, none⟩ = some (.int .i64 x.s3) ∧ w'.cell? ⟨blk, off + (m) * 14 + 10, none⟩ = some (.int .i64 x.s4) ∧ w'.cell? ⟨blk, off + (m) * 14 + 11, none⟩ = some (.int .i64 x.s5) ∧ w'.cell? ⟨blk, off + (m) * 14 + 12, none⟩ = some (.int .i64 x.s6) ∧ w'.cell? ⟨blk, off + (m) * 14 + 13, none⟩ = some (.int .i64 x.s7)) ∧ (w'.cell? ⟨blk, off + (h) * 14, none⟩ = some (.int .i64 y.tab) ∧ w'.cell? ⟨blk, off + (h) * 14 + 1, none⟩ = some (.int .i64 y.num) ∧ w'.cell? ⟨blk, off + (h) * 14 + 2, none⟩ = some (.int .i64 y.hour) ∧ w'.cell? ⟨blk, off + (h) * 14 + 3, none⟩ = some (.int .i64 y.sign) ∧ w'.cell? ⟨blk, off + (h) * 14 + 4, none⟩ = some (.int .i64 y.fld) ∧ w'.cell? ⟨blk, off + (h) * 14 + 5, none⟩ = some (.int .i64 y.val) ∧ w'.cell? ⟨blk, off + (h) * 14 + 6, none⟩ = some (.int .i64 y.s0) ∧ w'.cell? ⟨blk, off + (h) * 14 + 7, none⟩ = some (.int .i64 y.s1) ∧ w'.cell? ⟨blk, off + (h) * 14 + 8, none⟩ = some (.int .i64 y.s2) ∧ w'.cell? ⟨blk, off + (h) * 14 + 9, none⟩ = some (.int .i64 y.s3) ∧ w'.cell? ⟨blk, off + (h) * 14 + 10, none⟩ = some (.int .i64 y.s4) ∧ w'.cell? ⟨blk, off + (h) * 14 + 11, none⟩ = some (.int .i64 y.s5) ∧ w'.cell? ⟨blk, off + (h) * 14 + 12, none⟩ = some (.int .i64 y.s6) ∧ w'.cell? ⟨blk, off + (h) * 14 + 13, none⟩ = some (.int .i64 y.s7))) 11 12 rfl (by kernel_rfl) (by kernel_rfl) ((unhid HSF) _ (unhid HK).drew) ?_
        intro hSE
        have HK := hid (unhid HK).drew
        generalize wr.drew = Wd at *
        (refine WE_take (i := 0) (v := ?_) rfl (by kernel_rfl) (by decide) (by kernel_rfl) (by kernel_rfl) (fun _ _ _ h => h) (by rfl) hSE ?_ ?_; rotate_left; (focus (intro w hSw; (try dsimp only at hSw); go_simp; (try with_reducible rfl))); simp only [Act.put, List.setIfInBounds_toArray, List.set_cons_zero, List.set_cons_succ])
        (refine WE_take (i := 1) (v := ?_) rfl (by kernel_rfl) (by decide) (by kernel_rfl) (by kernel_rfl) (fun _ _ _ h => h) (by rfl) hSE ?_ ?_; rotate_left; (focus (intro w hSw; (try dsimp only at hSw); go_simp; (try with_reducible rfl))); simp only [Act.put, List.setIfInBounds_toArray, List.set_cons_zero, List.set_cons_succ])
        (refine WE_take (i := 2) (v := ?_) rfl (by kernel_rfl) (by decide) (by kernel_rfl) (by kernel_rfl) (fun _ _ _ h => h) (by rfl) hSE ?_ ?_; rotate_left; (focus (intro w hSw; (try dsimp only at hSw); go_simp; (try with_reducible rfl))); simp only [Act.put, List.setIfInBounds_toArray, List.set_cons_zero, List.set_cons_succ])
        (refine WE_take (i := 3) (v := ?_) rfl (by kernel_rfl) (by decide) (by kernel_rfl) (by kernel_rfl) (fun _ _ _ h => h) (by rfl) hSE ?_ ?_; rotate_left; (focus (intro w hSw; (try dsimp only at hSw); go_simp; (try with_reducible rfl))); simp only [Act.put, List.setIfInBounds_toArray, List.set_cons_zero, List.set_cons_succ])
        (refine WE_take (i := 4) (v := ?_) rfl (by kernel_rfl) (by decide) (by kernel_rfl) (by kernel_rfl) (fun _ _ _ h => h) (by rfl) hSE ?_ ?_; rotate_left; (focus (intro w hSw; (try dsimp only at hSw); go_simp; (try with_reducible rfl))); simp only [Act.put, List.setIfInBounds_toArray, List.set_cons_zero, List.set_cons_succ])
        (refine WE_take (i := 5) (v := ?_) rfl (by kernel_rfl) (by decide) (by kernel_rfl) (by kernel_rfl) (fun _ _ _ h => h) (by rfl) hSE ?_ ?_; rotate_left; (focus (intro w hSw; (try dsimp only at hSw); go_simp; (try with_reducible rfl))); simp only [Act.put, List.setIfInBounds_toArray, List.set_cons_zero, List.set_cons_succ])
        (refine WE_take (i := 6) (v := ?_) rfl (by kernel_rfl) (by decide) (by kernel_rfl) (by kernel_rfl) (fun _ _ _ h => h) (by rfl) hSE ?_ ?_; rotate_left; (focus (intro w hSw; (try dsimp only at hSw); go_simp; (try with_reducible rfl))); simp only [Act.put, List.setIfInBounds_toArray, List.set_cons_zero, List.set_cons_succ])
        (refine WE_take (i := 7) (v := ?_) rfl (by kernel_rfl) (by decide) (by kernel_rfl) (by kernel_rfl) (fun _ _ _ h => h) (by rfl) hSE ?_ ?_; rotate_left; (focus (intro w hSw; (try dsimp only at hSw); go_simp; (try with_reducible rfl))); simp only [Act.put, List.setIfInBounds_toArray, List.set_cons_zero, List.set_cons_succ])
        (refine WE_take (i := 8) (v := ?_) rfl (by kernel_rfl) (by decide) (by kernel_rfl) (by kernel_rfl) (fun _ _ _ h => h) (by rfl) hSE ?_ ?_; rotate_left; (focus (intro w hSw; (try dsimp only at hSw); go_simp; (try with_reducible rfl))); simp only [Act.put, List.setIfInBounds_toArray, List.set_cons_zero, List.set_cons_succ])
        (refine WE_one (i := 9) rfl (by decide) (by kernel_rfl) ?_; intro K hK)
        go_simp
        refine (byHourW_calls x y Wd).mono ?_
        rintro e wz ⟨rfl, nz, oz, rfl⟩
        have HK := hid ((unhid HK).grown nz oz)
        generalize grow (Wd.drewN nz) oz = w5 at *
        refine hK.out _ _ ((unhid HSF) _ (unhid HK)) ?_
        clear hSE hK K
        intro hSE
        (try simp only [Act.put, List.setIfInBounds_toArray, List.set_cons_zero, List.set_cons_succ])
        (refine WE_take (i := 10) (v := ?_) rfl (by kernel_rfl) (by decide) (by kernel_rfl) (by kernel_rfl) (fun _ _ _ h => h) (by rfl) hSE ?_ ?_; rotate_left; (focus (intro w hSw; (try dsimp only at hSw); go_simp; (try with_reducible rfl))); simp only [Act.put, List.setIfInBounds_toArray, List.set_cons_zero, List.set_cons_succ])
        (refine WE_last rfl (by kernel_rfl) (by kernel_rfl) (by kernel_rfl) ?_; intro K hK; go_simp; refine hK.out _ _ (NoPanic.normal ?_); clear hK K)
        clear hSE HSF
        go_wp2_with fail
        go_roundw
        case rel => exact ⟨i, h, rfl, rfl, unhid HN, unhid HK⟩
        case measure => have h1 := unhid HB3; simp [intOf]; omega
      · have HN := hid ((unhid HCUT).right ((show MrgIn Rl hrI d a m (m + 1) from by have h1 := unhid HIN; rwa [unhid HM] at h1).mono2 (unhid HRL)) (by omega) (by omega) hp)
        have eax : ((m : Int)).toNat = m := by omega
        have pax : (0 : Int) ≤ (m : Int) := by omega
        have bax : (m : Int) < (d0.size : Int) := by omega
        have rax : IntKind.i64.wrap ((m : Int)) = (m : Int) := by rw [IntKind.wrap_i64]; omega
        have eay : ((h : Int)).toNat = h := by omega
        have pay : (0 : Int) ≤ (h : Int) := by omega
        have bay : (h : Int) < (d0.size : Int) := by omega
        have ray : IntKind.i64.wrap ((h : Int)) = (h : Int) := by rw [IntKind.wrap_i64]; omega
        obtain ⟨x, hx⟩ : ∃ x, x = d[m]! := ⟨_, rfl⟩
        obtain ⟨y, hy⟩ : ∃ y, y = d[h]! := ⟨_, rfl⟩
        have HSF := hid (show ∀ w', SWK rcC 14 w0 blk off d w' → (w'.cell? ⟨blk, off + (m) * 14, none⟩ = some (.int .i64 x.tab) ∧ w'.cell? ⟨blk, off + (m) * 14 + 1, none⟩ = some (.int .i64 x.num) ∧ w'.cell? ⟨blk, off + (m) * 14 + 2, none⟩ = some (.int .i64 x.hour) ∧ w'.cell? ⟨blk, off + (m) * 14 + 3, none⟩ = some (.int .i64 x.sign) ∧ w'.cell? ⟨blk, off + (m) * 14 + 4, none⟩ = some (.int .i64 x.fld) ∧ w'.cell? ⟨blk, off + (m) * 14 + 5, none⟩ = some (.int .i64 x.val) ∧ w'.cell? ⟨blk, off + (m) * 14 + 6, none⟩ = some (.int .i64 x.s0) ∧ w'.cell? ⟨blk, off + (m) * 14 + 7, none⟩ = some (.int .i64 x.s1) ∧ w'.cell? ⟨blk, off + (m) * 14 + 8, none⟩ = some (.int .i64 x.s2) ∧ w'.cell? ⟨blk, off + (m) * 14 + 9, none⟩ = some (.int .i64 x.s3) ∧ w'.cell? ⟨blk, off + (m) * 14 + 10, none⟩ = some (.int .i64 x.s4) ∧ w'.cell? ⟨blk, off + (m) * 14 + 11, none⟩ = some (.int .i64 x.s5) ∧ w'.cell? ⟨blk, off + (m) * 14 + 12, none⟩ = some (.int .i64 x.s6) ∧ w'.cell? ⟨blk, off + (m) * 14 + 13, none⟩ = some (.int .i64 x.s7)) ∧ (w'.cell? ⟨blk, off + (h) * 14, none⟩ = some (.int .i64 y.tab) ∧ w'.cell? ⟨blk, off + (h) * 14 + 1, none⟩ = some (.int .i64 y.num) ∧ w'.cell? ⟨blk, off + (h) * 14 + 2, none⟩ = some (.int .i64 y.hour) ∧ w'.cell? ⟨blk, off + (h) * 14 + 3, none⟩ = some (.int .i64 y.sign) ∧ w'.cell? ⟨blk, off + (h) * 14 + 4, none⟩ = some (.int .i64 y.fld) ∧ w'.cell? ⟨blk, off + (h) * 14 + 5, none⟩ = some (.int .i64 y.val) ∧ w'.cell? ⟨blk, off + (h) * 14 + 6, none⟩ = some (.int .i64 y.s0) ∧ w'.cell? ⟨blk, off + (h) * 14 + 7, none⟩ = some (.int .i64 y.s1) ∧ w'.cell? ⟨blk, off + (h) * 14 + 8, none⟩ = some (.int .i64 y.s2) ∧ w'.cell? ⟨blk, off + (h) * 14 + 9, none⟩ = some (.int .i64 y.s3) ∧ w'.cell? ⟨blk, off + (h) * 14 + 10, none⟩ = some (.int .i64 y.s4) ∧ w'.cell? ⟨blk, off + (h) * 14 + 11, none⟩ = some (.int .i64 y.s5) ∧ w'.cell? ⟨blk, off + (h) * 14 + 12, none⟩ = some (.int .i64 y.s6) ∧ w'.cell? ⟨blk, off + (h) * 14 + 13, none⟩ = some (.int .i64 y.s7)) from fun w' hk => ⟨swk_cells14 (i := m) hk (unhid HR) (by omega) (by omega) hx, swk_cells14 (i := h) hk (unhid HR) (by omega) (by omega) hy⟩)
        have hd : decide (hrI x y < 0) = false := decide_eq_false (by rw [hx, hy]; exact hp)
        clear hx hy hp
        go_wp2_with fail
        refine wp_region_noPanic ?_
        refine wp_region_E (S := fun w' => (w'.cell? ⟨blk, off + (m) * 14, none⟩ = some (.int .i64 x.tab) ∧ w'.cell? ⟨blk, off + (m) * 14 + 1, none⟩ = some (.int .i64 x.num) ∧ w'.cell? ⟨blk, off + (m) * 14 + 2, none⟩ = some (.int .i64 x.hour) ∧ w'.cell? ⟨blk, off + (m) * 14 + 3, none⟩ = some (.int .i64 x.sign) ∧ w'.cell? ⟨blk, off + (m) * 14 + 4, none⟩ = some (.int .i64 x.fld) ∧ w'.cell? ⟨blk, off + (m) * 14 + 5, none⟩ = some (.int .i64 x.val) ∧ w'.cell? ⟨blk, off + (m) * 14 + 6, none⟩ = some (.int .i64 x.s0) ∧ w'.cell? ⟨blk, off + (m) * 14 + 7, none⟩ = some (.int .i64 x.s1) ∧ w'.cell? ⟨blk, off + (m) * 14 + 8, none⟩ = some (.int .i64 x.s2) ∧ w'.cell? ⟨blk, off + (m) * 14 + 9, none⟩ = some (.int .i64 x.s3) ∧ w'.cell? ⟨blk, off + (m) * 14 + 10, none⟩ = some (.int .i64 x.s4) ∧ w'.cell? ⟨blk, off + (m) * 14 + 11, none⟩ = some (.int .i64 x.s5) ∧ w'.cell? ⟨blk, off + (m) * 14 + 12, none⟩ = some (.int .i64 x.s6) ∧ w'.cell? ⟨blk, off + (m) * 14 + 13, none⟩ = some (.int .i64 x.s7)) ∧ (w'.cell? ⟨blk, off + (h) * 14, none⟩ = some (.int .i64 y.tab) ∧ w'.cell? ⟨blk, off + (h) * 14 + 1, none⟩ = some (.int .i64 y.num) ∧ w'.cell? ⟨blk, off + (h) * 14 + 2, none⟩ = some (.int .i64 y.hour) ∧ w'.cell? ⟨blk, off + (h) * 14 + 3, none⟩ = some (.int .i64 y.sign) ∧ w'.cell? ⟨blk, off + (h) * 14 + 4, none⟩ = some (.int .i64 y.fld) ∧ w'.cell? ⟨blk, off + (h) * 14 + 5, none⟩ = some (.int .i64 y.val) ∧ w'.cell? ⟨blk, off + (h) * 14 + 6, none⟩ = some (.int .i64 y.s0) ∧ w'.cell? ⟨blk, off + (h) * 14 + 7, none⟩ = some (.int .i64 y.s1) ∧ w'.cell? ⟨blk, off + (h) * 14 + 8, none⟩ = some (.int .i64 y.s2) ∧ w'.cell? ⟨blk, off + (h) * 14 + 9, none⟩ = some (.int .i64 y.s3) ∧ w'.cell? ⟨blk, off + (h) * 14 + 10, none⟩ = some (.int .i64 y.s4) ∧ w'.cell? ⟨blk, off + (h) * 14 + 11, none⟩ = some (.int .i64 y.s5) ∧ w'.cell? ⟨blk, off + (h) * 14 + 12, none⟩ = some (.int .i64 y.s6) ∧ w'.cell? ⟨blk, off + (h) * 14 + 13, none⟩ = some (.int .i64 y.s7))) 11 12 rfl (by kernel_rfl) (by kernel_rfl) ((unhid HSF) _ (unhid HK).drew) ?_
        intro hSE
        have HK := hid (unhid HK).drew
        generalize wr.drew = Wd at *
        (refine WE_take (i := 0) (v := ?_) rfl (by kernel_rfl) (by decide) (by kernel_rfl) (by kernel_rfl) (fun _ _ _ h => h) (by rfl) hSE ?_ ?_; rotate_left; (focus (intro w hSw; (try dsimp only at hSw); go_simp; (try with_reducible rfl))); simp only [Act.put, List.setIfInBounds_toArray, List.set_cons_zero, List.set_cons_succ])
        (refine WE_take (i := 1) (v := ?_) rfl (by kernel_rfl) (by decide) (by kernel_rfl) (by kernel_rfl) (fun _ _ _ h => h) (by rfl) hSE ?_ ?_; rotate_left; (focus (intro w hSw; (try dsimp only at hSw); go_simp; (try with_reducible rfl))); simp only [Act.put, List.setIfInBounds_toArray, List.set_cons_zero, List.set_cons_succ])
        (refine WE_take (i := 2) (v := ?_) rfl (by kernel_rfl) (by decide) (by kernel_rfl) (by kernel_rfl) (fun _ _ _ h => h) (by rfl) hSE ?_ ?_; rotate_left; (focus (intro w hSw; (try dsimp only at hSw); go_simp; (try with_reducible rfl))); simp only [Act.put, List.setIfInBounds_toArray, List.set_cons_zero, List.set_cons_succ])
        (refine WE_take (i := 3) (v := ?_) rfl (by kernel_rfl) (by decide) (by kernel_rfl) (by kernel_rfl) (fun _ _ _ h => h) (by rfl) hSE ?_ ?_; rotate_left; (focus (intro w hSw; (try dsimp only at hSw); go_simp; (try with_reducible rfl))); simp only [Act.put, List.setIfInBounds_toArray, List.set_cons_zero, List.set_cons_succ])
        (refine WE_take (i := 4) (v := ?_) rfl (by kernel_rfl) (by decide) (by kernel_rfl) (by kernel_rfl) (fun _ _ _ h => h) (by rfl) hSE ?_ ?_; rotate_left; (focus (intro w hSw; (try dsimp only at hSw); go_simp; (try with_reducible rfl))); simp only [Act.put, List.setIfInBounds_toArray, List.set_cons_zero, List.set_cons_succ])
        (refine WE_take (i := 5) (v := ?_) rfl (by kernel_rfl) (by decide) (by kernel_rfl) (by kernel_rfl) (fun _ _ _ h => h) (by rfl) hSE ?_ ?_; rotate_left; (focus (intro w hSw; (try dsimp only at hSw); go_simp; (try with_reducible rfl))); simp only [Act.put, List.setIfInBounds_toArray, List.set_cons_zero, List.set_cons_succ])
        (refine WE_take (i := 6) (v := ?_) rfl (by kernel_rfl) (by decide) (by kernel_rfl) (by kernel_rfl) (fun _ _ _ h => h) (by rfl) hSE ?_ ?_; rotate_left; (focus (intro w hSw; (try dsimp only at hSw); go_simp; (try with_reducible rfl))); simp only [Act.put, List.setIfInBounds_toArray, List.set_cons_zero, List.set_cons_succ])
        (refine WE_take (i := 7) (v := ?_) rfl (by kernel_rfl) (by decide) (by kernel_rfl) (by kernel_rfl) (fun _ _ _ h => h) (by rfl) hSE ?_ ?_; rotate_left; (focus (intro w hSw; (try dsimp only at hSw); go_simp; (try with_reducible rfl))); simp only [Act.put, List.setIfInBounds_toArray, List.set_cons_zero, List.set_cons_succ])
        (refine WE_take (i := 8) (v := ?_) rfl (by kernel_rfl) (by decide) (by kernel_rfl) (by kernel_rfl) (fun _ _ _ h => h) (by rfl) hSE ?_ ?_; rotate_left; (focus (intro w hSw; (try dsimp only at hSw); go_simp; (try with_reducible rfl))); simp only [Act.put, List.setIfInBounds_toArray, List.set_cons_zero, List.set_cons_succ])
        (refine WE_one (i := 9) rfl (by decide) (by kernel_rfl) ?_; intro K hK)
        go_simp
        refine (byHourW_calls x y Wd).mono ?_
        rintro e wz ⟨rfl, nz, oz, rfl⟩
        have HK := hid ((unhid HK).grown nz oz)
        generalize grow (Wd.drewN nz) oz = w5 at *
        refine hK.out _ _ ((unhid HSF) _ (unhid HK)) ?_
        clear hSE hK K
        intro hSE
        (try simp only [Act.put, List.setIfInBounds_toArray, List.set_cons_zero, List.set_cons_succ])
        (refine WE_take (i := 10) (v := ?_) rfl (by kernel_rfl) (by decide) (by kernel_rfl) (by kernel_rfl) (fun _ _ _ h => h) (by rfl) hSE ?_ ?_; rotate_left; (focus (intro w hSw; (try dsimp only at hSw); go_simp; (try with_reducible rfl))); simp only [Act.put, List.setIfInBounds_toArray, List.set_cons_zero, List.set_cons_succ])
        (refine WE_last rfl (by kernel_rfl) (by kernel_rfl) (by kernel_rfl) ?_; intro K hK; go_simp; refine hK.out _ _ (NoPanic.normal ?_); clear hK K)
        clear hSE HSF
        go_wp2_with fail
        go_roundw
        case rel => exact ⟨h + 1, j, by go_num, rfl, unhid HN, unhid HK⟩
        case measure => have h1 := unhid HB3; simp [intOf]; omega
    · obtain rfl : i = j := by omega
      have hnn : ¬ (i : Int) < (i : Int) := by omega
      go_upto_region 21 with (fail)
      go_loopw [17] (fun kv wr => ∃ (k : Nat) (dk : Array Rc), kv = .int .i64 k ∧ i ≤ k ∧ k ≤ m ∧ RotI d k m (m + 1) dk ∧ SWK rcC 14 w0 blk off dk wr) (fun kv _ => (intOf kv).toNat)
      case atStart => exact ⟨m, d, rfl, by omega, Nat.le_refl _, RotI.none d (.inl rfl) (Nat.le_refl _) (by omega), unhid HK⟩
      case round =>
        clear HK
        obtain ⟨k, dk, rfl, hk1, hk2, hrot, hk⟩ := hrel
        have HROT := hid hrot
        have HK := hid hk
        have hds : dk.size = d0.size := hrot.size.trans (unhid HSZ).2.1
        clear hrot hk
        by_cases hki : i < k
        · obtain ⟨q, rfl⟩ : ∃ q, k = q + 1 := ⟨k - 1, by omega⟩
          have hkii : (q : Int) + 1 > (i : Int) := by omega
          have HN := hid ((unhid HROT).down hk2 (by have := (unhid HSZ).2.1; omega))
          have eax : ((q : Int) + 1).toNat = q + 1 := by omega
          have pax : (0 : Int) ≤ (q : Int) + 1 := by omega
          have bax : (q : Int) + 1 < (d0.size : Int) := by omega
          have rax : IntKind.i64.wrap ((q : Int) + 1) = (q : Int) + 1 := by rw [IntKind.wrap_i64]; omega
          have eay : ((q : Int)).toNat = q := by omega
          have pay : (0 : Int) ≤ (q : Int) := by omega
          have bay : (q : Int) < (d0.size : Int) := by omega
          have ray : IntKind.i64.wrap ((q : Int)) = (q : Int) := by rw [IntKind.wrap_i64]; omega
          obtain ⟨x, hx⟩ : ∃ x, x = dk[q + 1]! := ⟨_, rfl⟩
          obtain ⟨y, hy⟩ : ∃ y, y = dk[q]! := ⟨_, rfl⟩
          obtain ⟨x0, x1, x2, x3, x4, x5, x6, x7, x8, x9, x10, x11, x12, x13⟩ := swk_cells14 (i := q + 1) (unhid HK).drew (unhid HR) (by omega) (by omega) hx
          obtain ⟨y0, y1, y2, y3, y4, y5, y6, y7, y8, y9, y10, y11, y12, y13⟩ := swk_cells14 (i := q) (unhid HK).drew (unhid HR) (by omega) (by omega) hy
          obtain ⟨W1, W2, sa, sb, s2⟩ : ∃ W1 W2, Sem.run Try.prog (storeCells ⟨blk, off + (q + 1) * 14, none⟩ (rcC y) 0) wr.drew = .ok () W1 ∧ Sem.run Try.prog (storeCells ⟨blk, off + (q) * 14, none⟩ (rcC x) 0) W1 = .ok () W2 ∧ SWK rcC 14 w0 blk off (swp dk (q + 1) (q)) W2 := by
            refine ⟨_, _, (unhid HK).st1 (unhid HR) (by omega) Try.prog (q + 1) (by omega) y, (unhid HK).st2 (unhid HR) (by omega) Try.prog (q + 1) (q) (by omega) (by omega) y x, ?_⟩
            rw [hx, hy]
            exact (unhid HK).swapped (unhid HR) (q + 1) (q) (by omega) (by omega)
          have S2 := hid s2
          clear s2
          clear HK hx hy
          go_wp2_with fail
          refine wp_region_noPanic ?_
          refine wp_region_E (S := fun _ => True) 17 18 rfl (by kernel_rfl) (by kernel_rfl) trivial ?_
          intro hSE
          generalize wr.drew = Wd at *
          (refine WE_take (i := 0) (v := ?_) rfl (by kernel_rfl) (by decide) (by kernel_rfl) (by kernel_rfl) (fun _ _ _ h => h) (by rfl) hSE ?_ ?_; rotate_left; (focus (intro w hSw; (try dsimp only at hSw); go_simp; (try with_reducible rfl))); simp only [Act.put, List.setIfInBounds_toArray, List.set_cons_zero, List.set_cons_succ])
          (refine WE_take (i := 1) (v := ?_) rfl (by kernel_rfl) (by decide) (by kernel_rfl) (by kernel_rfl) (fun _ _ _ h => h) (by rfl) hSE ?_ ?_; rotate_left; (focus (intro w hSw; (try dsimp only at hSw); go_simp; (try with_reducible rfl))); simp only [Act.put, List.setIfInBounds_toArray, List.set_cons_zero, List.set_cons_succ])
          (refine WE_take (i := 2) (v := ?_) rfl (by kernel_rfl) (by decide) (by kernel_rfl) (by kernel_rfl) (fun _ _ _ h => h) (by rfl) hSE ?_ ?_; rotate_left; (focus (intro w hSw; (try dsimp only at hSw); go_simp; (try with_reducible rfl))); simp only [Act.put, List.setIfInBounds_toArray, List.set_cons_zero, List.set_cons_succ])
          (refine WE_take (i := 3) (v := ?_) rfl (by kernel_rfl) (by decide) (by kernel_rfl) (by kernel_rfl) (fun _ _ _ h => h) (by rfl) hSE ?_ ?_; rotate_left; (focus (intro w hSw; (try dsimp only at hSw); go_simp; (try with_reducible rfl))); simp only [Act.put, List.setIfInBounds_toArray, List.set_cons_zero, List.set_cons_succ])
          (refine WE_take (i := 4) (v := ?_) rfl (by kernel_rfl) (by decide) (by kernel_rfl) (by kernel_rfl) (fun _ _ _ h => h) (by rfl) hSE ?_ ?_; rotate_left; (focus (intro w hSw; (try dsimp only at hSw); go_simp; (try with_reducible rfl))); simp only [Act.put, List.setIfInBounds_toArray, List.set_cons_zero, List.set_cons_succ])
          (refine WE_take (i := 5) (v := ?_) rfl (by kernel_rfl) (by decide) (by kernel_rfl) (by kernel_rfl) (fun _ _ _ h => h) (by rfl) hSE ?_ ?_; rotate_left; (focus (intro w hSw; (try dsimp only at hSw); go_simp; (try with_reducible rfl))); simp only [Act.put, List.setIfInBounds_toArray, List.set_cons_zero, List.set_cons_succ])
          (refine WE_take (i := 6) (v := ?_) rfl (by kernel_rfl) (by decide) (by kernel_rfl) (by kernel_rfl) (fun _ _ _ h => h) (by rfl) hSE ?_ ?_; rotate_left; (focus (intro w hSw; (try dsimp only at hSw); go_simp; (try with_reducible rfl))); simp only [Act.put, List.setIfInBounds_toArray, List.set_cons_zero, List.set_cons_succ])
          (refine WE_take (i := 7) (v := ?_) rfl (by kernel_rfl) (by decide) (by kernel_rfl) (by kernel_rfl) (fun _ _ _ h => h) (by rfl) hSE ?_ ?_; rotate_left; (focus (intro w hSw; (try dsimp only at hSw); go_simp; (try with_reducible rfl))); simp only [Act.put, List.setIfInBounds_toArray, List.set_cons_zero, List.set_cons_succ])
          (refine WE_take (i := 8) (v := ?_) rfl (by kernel_rfl) (by decide) (by kernel_rfl) (by kernel_rfl) (fun _ _ _ h => h) (by rfl) hSE ?_ ?_; rotate_left; (focus (intro w hSw; (try dsimp only at hSw); go_simp; (try with_reducible rfl))); simp only [Act.put, List.setIfInBounds_toArray, List.set_cons_zero, List.set_cons_succ])
          (refine WE_take (i := 10) (v := ?_) rfl (by kernel_rfl) (by decide) (by kernel_rfl) (by kernel_rfl) (fun _ _ _ h => h) (by rfl) hSE ?_ ?_; rotate_left; (focus (intro w hSw; (try dsimp only at hSw); go_simp; (try with_reducible rfl))); simp only [Act.put, List.setIfInBounds_toArray, List.set_cons_zero, List.set_cons_succ])
          (refine WE_take (i := 11) (v := ?_) rfl (by kernel_rfl) (by decide) (by kernel_rfl) (by kernel_rfl) (fun _ _ _ h => h) (by rfl) hSE ?_ ?_; rotate_left; (focus (intro w hSw; (try dsimp only at hSw); go_simp; (try with_reducible rfl))); simp only [Act.put, List.setIfInBounds_toArray, List.set_cons_zero, List.set_cons_succ])
          (refine WE_take (i := 12) (v := ?_) rfl (by kernel_rfl) (by decide) (by kernel_rfl) (by kernel_rfl) (fun _ _ _ h => h) (by rfl) hSE ?_ ?_; rotate_left; (focus (intro w hSw; (try dsimp only at hSw); go_simp; (try with_reducible rfl))); simp only [Act.put, List.setIfInBounds_toArray, List.set_cons_zero, List.set_cons_succ])
          refine WE_two (i := 9) (j := 13) rfl rfl (by decide) (by decide) (by kernel_rfl) ?_ ?_
          · intro K hK
            go_simp
            refine hK.out _ _ trivial ?_
            clear hSE hK K
            intro hSE
            (try simp only [Act.put, List.setIfInBounds_toArray, List.set_cons_zero, List.set_cons_succ])
            (refine WE_one (i := 13) rfl (by decide) (by kernel_rfl) ?_; intro K hK)
            go_simp
            refine hK.out _ _ trivial ?_
            clear hSE hK K
            intro hSE
            (try simp only [Act.put, List.setIfInBounds_toArray, List.set_cons_zero, List.set_cons_succ])
            (refine WE_one (i := 14) rfl (by decide) (by kernel_rfl) ?_; intro K hK)
            go_simp
            refine hK.out _ _ trivial ?_
            clear hSE hK K
            intro hSE
            (try simp only [Act.put, List.setIfInBounds_toArray, List.set_cons_zero, List.set_cons_succ])
            (refine WE_one (i := 15) rfl (by decide) (by kernel_rfl) ?_; intro K hK)
            rw [if_pos (by rfl)]
            refine wp_store_mid 33 (.tmp 127) (.tmp 122) rfl ⟨blk, off + (q + 1) * 14, none⟩ (rcA y) _ rfl rfl (rc_size y) sa ?_
            refine hK.out _ _ trivial ?_
            clear hSE hK K
            intro hSE
            (try simp only [Act.put, List.setIfInBounds_toArray, List.set_cons_zero, List.set_cons_succ])
            (refine WE_one (i := 16) rfl (by decide) (by kernel_rfl) ?_; intro K hK)
            go_simp
            refine hK.out _ _ trivial ?_
            clear hSE hK K
            intro hSE
            (try simp only [Act.put, List.setIfInBounds_toArray, List.set_cons_zero, List.set_cons_succ])
            refine WE_last rfl (by kernel_rfl) (by kernel_rfl) (by kernel_rfl) ?_
            intro K hK
            rw [if_pos (by rfl)]
            refine wp_store_mid 33 (.tmp 128) (.tmp 126) rfl ⟨blk, off + (q) * 14, none⟩ (rcA x) _ rfl rfl (rc_size x) sb ?_
            refine hK.out _ _ (NoPanic.normal ?_)
            clear hK K
            clear hSE sa sb x0 x1 x2 x3 x4 x5 x6 x7 x8 x9 x10 x11 x12 x13 y0 y1 y2 y3 y4 y5 y6 y7 y8 y9 y10 y11 y12 y13
            go_wp2_with fail
            go_roundw
            case rel => exact ⟨q, _, by first | rfl | go_num, by omega, by omega, unhid HN, unhid S2⟩
            case measure => simp [intOf]; try omega
          · intro K hK
            go_simp
            refine hK.out _ _ trivial ?_
            clear hSE hK K
            intro hSE
            (try simp only [Act.put, List.setIfInBounds_toArray, List.set_cons_zero, List.set_cons_succ])
            (refine WE_one (i := 9) rfl (by decide) (by kernel_rfl) ?_; intro K hK)
            go_simp
            refine hK.out _ _ trivial ?_
            clear hSE hK K
            intro hSE
            (try simp only [Act.put, List.setIfInBounds_toArray, List.set_cons_zero, List.set_cons_succ])
            (refine WE_one (i := 14) rfl (by decide) (by kernel_rfl) ?_; intro K hK)
            go_simp
            refine hK.out _ _ trivial ?_
            clear hSE hK K
            intro hSE
            (try simp only [Act.put, List.setIfInBounds_toArray, List.set_cons_zero, List.set_cons_succ])
            (refine WE_one (i := 15) rfl (by decide) (by kernel_rfl) ?_; intro K hK)
            rw [if_pos (by rfl)]
            refine wp_store_mid 33 (.tmp 127) (.tmp 122) rfl ⟨blk, off + (q + 1) * 14, none⟩ (rcA y) _ rfl rfl (rc_size y) sa ?_
            refine hK.out _ _ trivial ?_
            clear hSE hK K
            intro hSE
            (try simp only [Act.put, List.setIfInBounds_toArray, List.set_cons_zero, List.set_cons_succ])
            (refine WE_one (i := 16) rfl (by decide) (by kernel_rfl) ?_; intro K hK)
            go_simp
            refine hK.out _ _ trivial ?_
            clear hSE hK K
            intro hSE
            (try simp only [Act.put, List.setIfInBounds_toArray, List.set_cons_zero, List.set_cons_succ])
            refine WE_last rfl (by kernel_rfl) (by kernel_rfl) (by kernel_rfl) ?_
            intro K hK
            rw [if_pos (by rfl)]
            refine wp_store_mid 33 (.tmp 128) (.tmp 126) rfl ⟨blk, off + (q) * 14, none⟩ (rcA x) _ rfl rfl (rc_size x) sb ?_
            refine hK.out _ _ (NoPanic.normal ?_)
            clear hK K
            clear hSE sa sb x0 x1 x2 x3 x4 x5 x6 x7 x8 x9 x10 x11 x12 x13 y0 y1 y2 y3 y4 y5 y6 y7 y8 y9 y10 y11 y12 y13
            go_wp2_with fail
            go_roundw
            case rel => exact ⟨q, _, by first | rfl | go_num, by omega, by omega, unhid HN, unhid S2⟩
            case measure => simp [intOf]; try omega
        · have hkii : ¬ (k : Int) > (i : Int) := by omega
          obtain rfl : i = k := by omega
          have HP := hid (show MgPost w0 blk off Rl a b d (.returned (.tuple #[])) wr from ⟨rfl, dk, by
            have h1 := unhid HIN
            rw [unhid HM] at h1 ⊢
            exact h1.one2 (unhid HCUT) (unhid HROT) (by have := (unhid HSZ).2.1; omega), unhid HK⟩)
          go_wp2_with fail
          go_end0
          exact unhid HP

set_option maxHeartbeats 8000000 in
set_option maxRecDepth 100000 in
theorem mg3_calls {w0 : World} {blk off : Nat} {d0 : Array Rc} (R : RowK rcC 14 w0 blk off d0) {Rl : Rc → Rc → Prop} (hRl : Strict Rl) (cap : Nat) (hsz : d0.size ≤ 1000000) (N : Nat) (ih : ∀ (a m b : Nat) (ai mi bi : Int) (d : Array Rc) (w : World), b - a ≤ N → ai = (a : Int) → mi = (m : Int) → bi = (b : Int) → SWK rcC 14 w0 blk off d w → d.size = d0.size → a < m → m < b → b ≤ d0.size → MrgIn Rl hrI d a m b →
    Calls Try.prog 158 #[.slice (some ⟨blk, off, none⟩) d0.size cap, .int .i64 ai, .int .i64 mi, .int .i64 bi, .func (.func 116) #[] #[]] w fun e w' => MgPost w0 blk off Rl a b d e w')
    (a m b : Nat) (d : Array Rc) (w : World) (hN : b - a ≤ N + 1) (h : SWK rcC 14 w0 blk off d w) (hs : d.size = d0.size) (ham : a < m) (hmb : m < b) (hb : b ≤ d0.size) (hin : MrgIn Rl hrI d a m b) (h1 : ¬ m = a + 1) (h2 : ¬ b = m + 1) (mid : Nat) (hmid : mid = (a + b) / 2) (hmm : mid < m) :
    Calls Try.prog 158 #[.slice (some ⟨blk, off, none⟩) d0.size cap, .int .i64 (a : Int), .int .i64 (m : Int), .int .i64 (b : Int), .func (.func 116) #[] #[]] w fun e w' => MgPost w0 blk off Rl a b d e w' := by
  have mixed : Try.prog.follows .mixedOrders = true := by kernel_rfl
  have HR := hid R
  have HRL := hid hRl
  have HK := hid h
  have HIN := hid hin
  have IH := hid ih
  have HSZ := hid (show d0.size ≤ 1000000 ∧ d.size = d0.size ∧ b ≤ d0.size ∧ a < m ∧ m < b ∧ b - a ≤ N + 1 from ⟨hsz, hs, hb, ham, hmb, hN⟩)
  clear h hin ih
  go_enter Try.func158, Try.ntmps158
  have q1 : ((m : Int) - (a : Int) == 1) = false := beq_eq_false_iff_ne.2 (by omega)
  have r1 : IntKind.i64.wrap ((m : Int) - (a : Int)) = (m : Int) - (a : Int) := by rw [IntKind.wrap_i64]; omega
  have q2 : ((b : Int) - (m : Int) == 1) = false := beq_eq_false_iff_ne.2 (by omega)
  have r2 : IntKind.i64.wrap ((b : Int) - (m : Int)) = (b : Int) - (m : Int) := by rw [IntKind.wrap_i64]; omega
  have HMI := hid hmid
  have hM6 : mid * 2 ≤ a + b ∧ a + b ≤ mid * 2 + 1 := by omega
  clear hmid
  go_upto_region 25 with (fail)
  have hq := half_u64 (unhid HMI)
  rw [hq]
  clear hq
  have HMID := hid (show Mid a m b mid (mid + m - b) (mid) from ⟨by omega, by omega, by omega, by omega, .inl ⟨hmm, by omega, rfl⟩⟩)
  have hmi : (m : Int) > (mid : Int) := by omega
  go_upto_region 33 with (fail)
  clear q1 r1 q2 r2 hmi
  go_loopw [20, 21] (fun iv jv wr => ∃ (i j : Nat), iv = .int .i64 i ∧ jv = .int .i64 j ∧ Cut (tst3 d (mid + m - 1)) (mid + m - b) (mid) i j ∧ SWK rcC 14 w0 blk off d wr) (fun iv jv _ => (intOf jv).toNat - (intOf iv).toNat)
  case atStart => exact ⟨mid + m - b, mid, by first | rfl | (congr 1; omega), rfl, Cut.start (by omega), unhid HK⟩
  case round =>
    clear HK
    obtain ⟨i, j, rfl, rfl, hcut, hk⟩ := hrel
    have HCUT := hid hcut
    have HK := hid hk
    have hb3 : (mid + m - b) ≤ i ∧ i ≤ j ∧ j ≤ (mid) := ⟨hcut.li, hcut.ij, hcut.jh⟩
    clear hcut hk
    by_cases hlt : i < j
    · have hlti : (i : Int) < (j : Int) := by omega
      go_upto_region 35 with (fail)
      obtain ⟨h, hh⟩ : ∃ h, h = (i + j) / 2 := ⟨_, rfl⟩
      have hq := half_u64 hh
      rw [hq]
      have HB3 := hid (show i ≤ h ∧ h < j from by omega)
      have hb4 : i ≤ h ∧ h < j := unhid HB3
      clear hq hh
      by_cases hp : hrI d[mid + m - 1 - h]! d[h]! < 0
      · have HN := hid ((unhid HCUT).left ((unhid HIN).monoM (unhid HRL) (unhid HMID)) (by omega) (by omega) (fun hn => hn hp))
        have eax : ((mid : Int) + (m : Int) - 1 - (h : Int)).toNat = mid + m - 1 - h := by omega
        have pax : (0 : Int) ≤ (mid : Int) + (m : Int) - 1 - (h : Int) := by omega
        have bax : (mid : Int) + (m : Int) - 1 - (h : Int) < (d0.size : Int) := by omega
        have rax : IntKind.i64.wrap ((mid : Int) + (m : Int) - 1 - (h : Int)) = (mid : Int) + (m : Int) - 1 - (h : Int) := by rw [IntKind.wrap_i64]; omega
        have eay : ((h : Int)).toNat = h := by omega
        have pay : (0 : Int) ≤ (h : Int) := by omega
        have bay : (h : Int) < (d0.size : Int) := by omega
        have ray : IntKind.i64.wrap ((h : Int)) = (h : Int) := by rw [IntKind.wrap_i64]; omega
        have pax2 : (h : Int) ≤ (mid : Int) + (m : Int) - 1 := by omega
        obtain ⟨x, hx⟩ : ∃ x, x = d[mid + m - 1 - h]! := ⟨_, rfl⟩
        obtain ⟨y, hy⟩ : ∃ y, y = d[h]! := ⟨_, rfl⟩
        have HSF := hid (show ∀ w', SWK rcC 14 w0 blk off d w' → (w'.cell? ⟨blk, off + (mid + m - 1 - h) * 14, none⟩ = some (.int .i64 x.tab) ∧ w'.cell? ⟨blk, off + (mid + m - 1 - h) * 14 + 1, none⟩ = some (.int .i64 x.num) ∧ w'.cell? ⟨blk, off + (mid + m - 1 - h) * 14 + 2, none⟩ = some (.int .i64 x.hour) ∧ w'.cell? ⟨blk, off + (mid + m - 1 - h) * 14 + 3, none⟩ = some (.int .i64 x.sign) ∧ w'.cell? ⟨blk, off + (mid + m - 1 - h) * 14 + 4, none⟩ = some (.int .i64 x.fld) ∧ w'.cell? ⟨blk, off + (mid + m - 1 - h) * 14 + 5, none⟩ = some (.int .i64 x.val) ∧ w'.cell? ⟨blk, off + (mid + m - 1 - h) * 14 + 6, none⟩ = some (.int .i64 x.s0) ∧ w'.cell? ⟨blk, off + (mid + m - 1 - h) * 14 + 7, none⟩ = some (.int .i64 x.s1) ∧ w'.cell? ⟨blk, off + (mid + m - 1 - h) * 14 + 8, none⟩ = some (.int .i64 x.s2) ∧ w'.cell? ⟨blk, off + (mid + m - 1 - h) * 14 + 9, none⟩ = some (.int .i64 x.s3) ∧ w'.cell? ⟨blk, off + (mid + m - 1 - h) * 14 + 10, none⟩ = some (.int .i64 x.s4) ∧ w'.cell? ⟨blk, off + (mid + m - 1 - h) * 14 + 11, none⟩ = some (.int .i64 x.s5) ∧ w'.cell? ⟨blk, off + (mid + m - 1 - h) * 14 + 12, none⟩ = some (.int .i64 x.s6) ∧ w'.cell? ⟨blk, off + (mid + m - 1 - h) * 14 + 13, none⟩ = some (.int .i64 x.s7)) ∧ (w'.cell? ⟨blk, off + (h) * 14, none⟩ = some (.int .i64 y.tab) ∧ w'.cell? ⟨blk, off + (h) * 14 + 1, none⟩ = some (.int .i64 y.num) ∧ w'.cell? ⟨blk, off + (h) * 14 + 2, none⟩ = some (.int .i64 y.hour) ∧ w'.cell? ⟨blk, off + (h) * 14 + 3, none⟩ = some (.int .i64 y.sign) ∧ w'.cell? ⟨blk, off + (h) * 14 + 4, none⟩ = some (.int .i64 y.fld) ∧ w'.cell? ⟨blk, off + (h) * 14 + 5, none⟩ = some (.int .i64 y.val) ∧ w'.cell? ⟨blk, off + (h) * 14 + 6, none⟩ = some (.int .i64 y.s0) ∧ w'.cell? ⟨blk, off + (h) * 14 + 7, none⟩ = some (.int .i64 y.s1) ∧ w'.cell? ⟨blk, off + (h) * 14 + 8, none⟩ = some (.int .i64 y.s2) ∧ w'.cell? ⟨blk, off + (h) * 14 + 9, none⟩ = some (.int .i64 y.s3) ∧ w'.cell? ⟨blk, off + (h) * 14 + 10, none⟩ = some (.int .i64 y.s4) ∧ w'.cell? ⟨blk, off + (h) * 14 + 11, none⟩ = some (.int .i64 y.s5) ∧ w'.cell? ⟨blk, off + (h) * 14 + 12, none⟩ = some (.int .i64 y.s6) ∧ w'.cell? ⟨blk, off + (h) * 14 + 13, none⟩ = some (.int .i64 y.s7)) from fun w' hk => ⟨swk_cells14 (i := mid + m - 1 - h) hk (unhid HR) (by omega) (by omega) hx, swk_cells14 (i := h) hk (unhid HR) (by omega) (by omega) hy⟩)
        have hd : decide (hrI x y < 0) = true := decide_eq_true (by rw [hx, hy]; exact hp)
        clear hx hy hp
        go_wp2_with fail
        refine wp_region_noPanic ?_
        refine wp_region_E (S := fun w' => (w'.cell? ⟨blk, off + (mid + m - 1 - h) * 14, none⟩ = some (.int .i64 x.tab) ∧ w'.cell? ⟨blk, off + (mid + m - 1 - h) * 14 + 1, none⟩ = some (.int .i64 x.num) ∧ w'.cell? ⟨blk, off + (mid + m - 1 - h) * 14 + 2, none⟩ = some (.int .i64 x.hour) ∧ w'.cell? ⟨blk, off + (mid + m - 1 - h) * 14 + 3, none⟩ = some (.int .i64 x.sign) ∧ w'.cell? ⟨blk, off + (mid + m - 1 - h) * 14 + 4, none⟩ = some (.int .i64 x.fld) ∧ w'.cell? ⟨blk, off + (mid + m - 1 - h) * 14 + 5, none⟩ = some (.int .i64 x.val) ∧ w'.cell? ⟨blk, off + (mid + m - 1 - h) * 14 + 6, none⟩ = some (.int .i64 x.s0) ∧ w'.cell? ⟨blk, off + (mid + m - 1 - h) * 14 + 7, none⟩ = some (.int .i64 x.s1) ∧ w'.cell? ⟨blk, off + (mid + m - 1 - h) * 14 + 8, none⟩ = some (.int .i64 x.s2) ∧ w'.cell? ⟨blk, off + (mid + m - 1 - h) * 14 + 9, none⟩ = some (.int .i64 x.s3) ∧ w'.cell? ⟨blk, off + (mid + m - 1 - h) * 14 + 10, none⟩ = some (.int .i64 x.s4) ∧ w'.cell? ⟨blk, off + (mid + m - 1 - h) * 14 + 11, none⟩ = some (.int .i64 x.s5) ∧ w'.cell? ⟨blk, off + (mid + m - 1 - h) * 14 + 12, none⟩ = some (.int .i64 x.s6) ∧ w'.cell? ⟨blk, off + (mid + m - 1 - h) * 14 + 13, none⟩ = some (.int .i64 x.s7)) ∧ (w'.cell? ⟨blk, off + (h) * 14, none⟩ = some (.int .i64 y.tab) ∧ w'.cell? ⟨blk, off + (h) * 14 + 1, none⟩ = some (.int .i64 y.num) ∧ w'.cell? ⟨blk, off + (h) * 14 + 2, none⟩ = some (.int .i64 y.hour) ∧ w'.cell? ⟨blk, off + (h) * 14 + 3, none⟩ = some (.int .i64 y.sign) ∧ w'.cell? ⟨blk, off + (h) * 14 + 4, none⟩ = some (.int .i64 y.fld) ∧ w'.cell? ⟨blk, off + (h) * 14 + 5, none⟩ = some (.int .i64 y.val) ∧ w'.cell? ⟨blk, off + (h) * 14 + 6, none⟩ = some (.int .i64 y.s0) ∧ w'.cell? ⟨blk, off + (h) * 14 + 7, none⟩ = some (.int .i64 y.s1) ∧ w'.cell? ⟨blk, off + (h) * 14 + 8, none⟩ = some (.int .i64 y.s2) ∧ w'.cell? ⟨blk, off + (h) * 14 + 9, none⟩ = some (.int .i64 y.s3) ∧ w'.cell? ⟨blk, off + (h) * 14 + 10, none⟩ = some (.int .i64 y.s4) ∧ w'.cell? ⟨blk, off + (h) * 14 + 11, none⟩ = some (.int .i64 y.s5) ∧ w'.cell? ⟨blk, off + (h) * 14 + 12, none⟩ = some (.int .i64 y.s6) ∧ w'.cell? ⟨blk, off + (h) * 14 + 13, none⟩ = some (.int .i64 y.s7))) 13 14 rfl (by kernel_rfl) (by kernel_rfl) ((unhid HSF) _ (unhid HK).drew) ?_
        intro hSE
        have HK := hid (unhid HK).drew
        generalize wr.drew = Wd at *
        (refine WE_take (i := 0) (v := ?_) rfl (by kernel_rfl) (by decide) (by kernel_rfl) (by kernel_rfl) (fun _ _ _ h => h) (by rfl) hSE ?_ ?_; rotate_left; (focus (intro w hSw; (try dsimp only at hSw); go_simp; (try with_reducible rfl))); simp only [Act.put, List.setIfInBounds_toArray, List.set_cons_zero, List.set_cons_succ])
        (refine WE_take (i := 1) (v := ?_) rfl (by kernel_rfl) (by decide) (by kernel_rfl) (by kernel_rfl) (fun _ _ _ h => h) (by rfl) hSE ?_ ?_; rotate_left; (focus (intro w hSw; (try dsimp only at hSw); go_simp; (try with_reducible rfl))); simp only [Act.put, List.setIfInBounds_toArray, List.set_cons_zero, List.set_cons_succ])
        (refine WE_take (i := 2) (v := ?_) rfl (by kernel_rfl) (by decide) (by kernel_rfl) (by kernel_rfl) (fun _ _ _ h => h) (by rfl) hSE ?_ ?_; rotate_left; (focus (intro w hSw; (try dsimp only at hSw); go_simp; (try with_reducible rfl))); simp only [Act.put, List.setIfInBounds_toArray, List.set_cons_zero, List.set_cons_succ])
        (refine WE_take (i := 3) (v := ?_) rfl (by kernel_rfl) (by decide) (by kernel_rfl) (by kernel_rfl) (fun _ _ _ h => h) (by rfl) hSE ?_ ?_; rotate_left; (focus (intro w hSw; (try dsimp only at hSw); go_simp; (try with_reducible rfl))); simp only [Act.put, List.setIfInBounds_toArray, List.set_cons_zero, List.set_cons_succ])
        (refine WE_take (i := 4) (v := ?_) rfl (by kernel_rfl) (by decide) (by kernel_rfl) (by kernel_rfl) (fun _ _ _ h => h) (by rfl) hSE ?_ ?_; rotate_left; (focus (intro w hSw; (try dsimp only at hSw); go_simp; (try with_reducible rfl))); simp only [Act.put, List.setIfInBounds_toArray, List.set_cons_zero, List.set_cons_succ])
        (refine WE_take (i := 5) (v := ?_) rfl (by kernel_rfl) (by decide) (by kernel_rfl) (by kernel_rfl) (fun _ _ _ h => h) (by rfl) hSE ?_ ?_; rotate_left; (focus (intro w hSw; (try dsimp only at hSw); go_simp; (try with_reducible rfl))); simp only [Act.put, List.setIfInBounds_toArray, List.set_cons_zero, List.set_cons_succ])
        (refine WE_take (i := 6) (v := ?_) rfl (by kernel_rfl) (by decide) (by kernel_rfl) (by kernel_rfl) (fun _ _ _ h => h) (by rfl) hSE ?_ ?_; rotate_left; (focus (intro w hSw; (try dsimp only at hSw); go_simp; (try with_reducible rfl))); simp only [Act.put, List.setIfInBounds_toArray, List.set_cons_zero, List.set_cons_succ])
        (refine WE_take (i := 7) (v := ?_) rfl (by kernel_rfl) (by decide) (by kernel_rfl) (by kernel_rfl) (fun _ _ _ h => h) (by rfl) hSE ?_ ?_; rotate_left; (focus (intro w hSw; (try dsimp only at hSw); go_simp; (try with_reducible rfl))); simp only [Act.put, List.setIfInBounds_toArray, List.set_cons_zero, List.set_cons_succ])
        (refine WE_take (i := 8) (v := ?_) rfl (by kernel_rfl) (by decide) (by kernel_rfl) (by kernel_rfl) (fun _ _ _ h => h) (by rfl) hSE ?_ ?_; rotate_left; (focus (intro w hSw; (try dsimp only at hSw); go_simp; (try with_reducible rfl))); simp only [Act.put, List.setIfInBounds_toArray, List.set_cons_zero, List.set_cons_succ])
        (refine WE_take (i := 9) (v := ?_) rfl (by kernel_rfl) (by decide) (by kernel_rfl) (by kernel_rfl) (fun _ _ _ h => h) (by rfl) hSE ?_ ?_; rotate_left; (focus (intro w hSw; (try dsimp only at hSw); go_simp; (try with_reducible rfl))); simp only [Act.put, List.setIfInBounds_toArray, List.set_cons_zero, List.set_cons_succ])
        (refine WE_take (i := 10) (v := ?_) rfl (by kernel_rfl) (by decide) (by kernel_rfl) (by kernel_rfl) (fun _ _ _ h => h) (by rfl) hSE ?_ ?_; rotate_left; (focus (intro w hSw; (try dsimp only at hSw); go_simp; (try with_reducible rfl))); simp only [Act.put, List.setIfInBounds_toArray, List.set_cons_zero, List.set_cons_succ])
        (refine WE_one (i := 11) rfl (by decide) (by kernel_rfl) ?_; intro K hK)
        go_simp
        refine (byHourW_calls x y Wd).mono ?_
        rintro e wz ⟨rfl, nz, oz, rfl⟩
        have HK := hid ((unhid HK).grown nz oz)
        generalize grow (Wd.drewN nz) oz = w5 at *
        refine hK.out _ _ ((unhid HSF) _ (unhid HK)) ?_
        clear hSE hK K
        intro hSE
        (try simp only [Act.put, List.setIfInBounds_toArray, List.set_cons_zero, List.set_cons_succ])
        (refine WE_take (i := 12) (v := ?_) rfl (by kernel_rfl) (by decide) (by kernel_rfl) (by kernel_rfl) (fun _ _ _ h => h) (by rfl) hSE ?_ ?_; rotate_left; (focus (intro w hSw; (try dsimp only at hSw); go_simp; (try with_reducible rfl))); simp only [Act.put, List.setIfInBounds_toArray, List.set_cons_zero, List.set_cons_succ])
        (refine WE_last rfl (by kernel_rfl) (by kernel_rfl) (by kernel_rfl) ?_; intro K hK; go_simp; refine hK.out _ _ (NoPanic.normal ?_); clear hK K)
        clear hSE HSF
        go_wp2_with fail
        go_roundw
        case rel => exact ⟨i, h, rfl, rfl, unhid HN, unhid HK⟩
        case measure => have h1 := unhid HB3; simp [intOf]; omega
      · have HN := hid ((unhid HCUT).right ((unhid HIN).monoM (unhid HRL) (unhid HMID)) (by omega) (by omega) hp)
        have eax : ((mid : Int) + (m : Int) - 1 - (h : Int)).toNat = mid + m - 1 - h := by omega
        have pax : (0 : Int) ≤ (mid : Int) + (m : Int) - 1 - (h : Int) := by omega
        have bax : (mid : Int) + (m : Int) - 1 - (h : Int) < (d0.size : Int) := by omega
        have rax : IntKind.i64.wrap ((mid : Int) + (m : Int) - 1 - (h : Int)) = (mid : Int) + (m : Int) - 1 - (h : Int) := by rw [IntKind.wrap_i64]; omega
        have eay : ((h : Int)).toNat = h := by omega
        have pay : (0 : Int) ≤ (h : Int) := by omega
        have bay : (h : Int) < (d0.size : Int) := by omega
        have ray : IntKind.i64.wrap ((h : Int)) = (h : Int) := by rw [IntKind.wrap_i64]; omega
        have pax2 : (h : Int) ≤ (mid : Int) + (m : Int) - 1 := by omega
        obtain ⟨x, hx⟩ : ∃ x, x = d[mid + m - 1 - h]! := ⟨_, rfl⟩
        obtain ⟨y, hy⟩ : ∃ y, y = d[h]! := ⟨_, rfl⟩
        have HSF := hid (show ∀ w', SWK rcC 14 w0 blk off d w' → (w'.cell? ⟨blk, off + (mid + m - 1 - h) * 14, none⟩ = some (.int .i64 x.tab) ∧ w'.cell? ⟨blk, off + (mid + m - 1 - h) * 14 + 1, none⟩ = some (.int .i64 x.num) ∧ w'.cell? ⟨blk, off + (mid + m - 1 - h) * 14 + 2, none⟩ = some (.int .i64 x.hour) ∧ w'.cell? ⟨blk, off + (mid + m - 1 - h) * 14 + 3, none⟩ = some (.int .i64 x.sign) ∧ w'.cell? ⟨blk, off + (mid + m - 1 - h) * 14 + 4, none⟩ = some (.int .i64 x.fld) ∧ w'.cell? ⟨blk, off + (mid + m - 1 - h) * 14 + 5, none⟩ = some (.int .i64 x.val) ∧ w'.cell? ⟨blk, off + (mid + m - 1 - h) * 14 + 6, none⟩ = some (.int .i64 x.s0) ∧ w'.cell? ⟨blk, off + (mid + m - 1 - h) * 14 + 7, none⟩ = some (.int .i64 x.s1) ∧ w'.cell? ⟨blk, off + (mid + m - 1 - h) * 14 + 8, none⟩ = some (.int .i64 x.s2) ∧ w'.cell? ⟨blk, off + (mid + m - 1 - h) * 14 + 9, none⟩ = some (.int .i64 x.s3) ∧ w'.cell? ⟨blk, off + (mid + m - 1 - h) * 14 + 10, none⟩ = some (.int .i64 x.s4) ∧ w'.cell? ⟨blk, off + (mid + m - 1 - h) * 14 + 11, none⟩ = some (.int .i64 x.s5) ∧ w'.cell? ⟨blk, off + (mid + m - 1 - h) * 14 + 12, none⟩ = some (.int .i64 x.s6) ∧ w'.cell? ⟨blk, off + (mid + m - 1 - h) * 14 + 13, none⟩ = some (.int .i64 x.s7)) ∧ (w'.cell? ⟨blk, off + (h) * 14, none⟩ = some (.int .i64 y.tab) ∧ w'.cell? ⟨blk, off + (h) * 14 + 1, none⟩ = some (.int .i64 y.num) ∧ w'.cell? ⟨blk, off + (h) * 14 + 2, none⟩ = some (.int .i64 y.hour) ∧ w'.cell? ⟨blk, off + (h) * 14 + 3, none⟩ = some (.int .i64 y.sign) ∧ w'.cell? ⟨blk, off + (h) * 14 + 4, none⟩ = some (.int .i64 y.fld) ∧ w'.cell? ⟨blk, off + (h) * 14 + 5, none⟩ = some (.int .i64 y.val) ∧ w'.cell? ⟨blk, off + (h) * 14 + 6, none⟩ = some (.int .i64 y.s0) ∧ w'.cell? ⟨blk, off + (h) * 14 + 7, none⟩ = some (.int .i64 y.s1) ∧ w'.cell? ⟨blk, off + (h) * 14 + 8, none⟩ = some (.int .i64 y.s2) ∧ w'.cell? ⟨blk, off + (h) * 14 + 9, none⟩ = some (.int .i64 y.s3) ∧ w'.cell? ⟨blk, off + (h) * 14 + 10, none⟩ = some (.int .i64 y.s4) ∧ w'.cell? ⟨blk, off + (h) * 14 + 11, none⟩ = some (.int .i64 y.s5) ∧ w'.cell? ⟨blk, off + (h) * 14 + 12, none⟩ = some (.int .i64 y.s6) ∧ w'.cell? ⟨blk, off + (h) * 14 + 13, none⟩ = some (.int .i64 y.s7)) from fun w' hk => ⟨swk_cells14 (i := mid + m - 1 - h) hk (unhid HR) (by omega) (by omega) hx, swk_cells14 (i := h) hk (unhid HR) (by omega) (by omega) hy⟩)
        have hd : decide (hrI x y < 0) = false := decide_eq_false (by rw [hx, hy]; exact hp)
        clear hx hy hp
        go_wp2_with fail
        refine wp_region_noPanic ?_
        refine wp_region_E (S := fun w' => (w'.cell? ⟨blk, off + (mid + m - 1 - h) * 14, none⟩ = some (.int .i64 x.tab) ∧ w'.cell? ⟨blk, off + (mid + m - 1 - h) * 14 + 1, none⟩ = some (.int .i64 x.num) ∧ w'.cell? ⟨blk, off + (mid + m - 1 - h) * 14 + 2, none⟩ = some (.int .i64 x.hour) ∧ w'.cell? ⟨blk, off + (mid + m - 1 - h) * 14 + 3, none⟩ = some (.int .i64 x.sign) ∧ w'.cell? ⟨blk, off + (mid + m - 1 - h) * 14 + 4, none⟩ = some (.int .i64 x.fld) ∧ w'.cell? ⟨blk, off + (mid + m - 1 - h) * 14 + 5, none⟩ = some (.int .i64 x.val) ∧ w'.cell? ⟨blk, off + (mid + m - 1 - h) * 14 + 6, none⟩ = some (.int .i64 x.s0) ∧ w'.cell? ⟨blk, off + (mid + m - 1 - h) * 14 + 7, none⟩ = some (.int .i64 x.s1) ∧ w'.cell? ⟨blk, off + (mid + m - 1 - h) * 14 + 8, none⟩ = some (.int .i64 x.s2) ∧ w'.cell? ⟨blk, off + (mid + m - 1 - h) * 14 + 9, none⟩ = some (.int .i64 x.s3) ∧ w'.cell? ⟨blk, off + (mid + m - 1 - h) * 14 + 10, none⟩ = some (.int .i64 x.s4) ∧ w'.cell? ⟨blk, off + (mid + m - 1 - h) * 14 + 11, none⟩ = some (.int .i64 x.s5) ∧ w'.cell? ⟨blk, off + (mid + m - 1 - h) * 14 + 12, none⟩ = some (.int .i64 x.s6) ∧ w'.cell? ⟨blk, off + (mid + m - 1 - h) * 14 + 13, none⟩ = some (.int .i64 x.s7)) ∧ (w'.cell? ⟨blk, off + (h) * 14, none⟩ = some (.int .i64 y.tab) ∧ w'.cell? ⟨blk, off + (h) * 14 + 1, none⟩ = some (.int .i64 y.num) ∧ w'.cell? ⟨blk, off + (h) * 14 + 2, none⟩ = some (.int .i64 y.hour) ∧ w'.cell? ⟨blk, off + (h) * 14 + 3, none⟩ = some (.int .i64 y.sign) ∧ w'.cell? ⟨blk, off + (h) * 14 + 4, none⟩ = some (.int .i64 y.fld) ∧ w'.cell? ⟨blk, off + (h) * 14 + 5, none⟩ = some (.int .i64 y.val) ∧ w'.cell? ⟨blk, off + (h) * 14 + 6, none⟩ = some (.int .i64 y.s0) ∧ w'.cell? ⟨blk, off + (h) * 14 + 7, none⟩ = some (.int .i64 y.s1) ∧ w'.cell? ⟨blk, off + (h) * 14 + 8, none⟩ = some (.int .i64 y.s2) ∧ w'.cell? ⟨blk, off + (h) * 14 + 9, none⟩ = some (.int .i64 y.s3) ∧ w'.cell? ⟨blk, off + (h) * 14 + 10, none⟩ = some (.int .i64 y.s4) ∧ w'.cell? ⟨blk, off + (h) * 14 + 11, none⟩ = some (.int .i64 y.s5) ∧ w'.cell? ⟨blk, off + (h) * 14 + 12, none⟩ = some (.int .i64 y.s6) ∧ w'.cell? ⟨blk, off + (h) * 14 + 13, none⟩ = some (.int .i64 y.s7))) 13 14 rfl (by kernel_rfl) (by kernel_rfl) ((unhid HSF) _ (unhid HK).drew) ?_
        intro hSE
        have HK := hid (unhid HK).drew
        generalize wr.drew = Wd at *
        (refine WE_take (i := 0) (v := ?_) rfl (by kernel_rfl) (by decide) (by kernel_rfl) (by kernel_rfl) (fun _ _ _ h => h) (by rfl) hSE ?_ ?_; rotate_left; (focus (intro w hSw; (try dsimp only at hSw); go_simp; (try with_reducible rfl))); simp only [Act.put, List.setIfInBounds_toArray, List.set_cons_zero, List.set_cons_succ])
        (refine WE_take (i := 1) (v := ?_) rfl (by kernel_rfl) (by decide) (by kernel_rfl) (by kernel_rfl) (fun _ _ _ h => h) (by rfl) hSE ?_ ?_; rotate_left; (focus (intro w hSw; (try dsimp only at hSw); go_simp; (try with_reducible rfl))); simp only [Act.put, List.setIfInBounds_toArray, List.set_cons_zero, List.set_cons_succ])
        (refine WE_take (i := 2) (v := ?_) rfl (by kernel_rfl) (by decide) (by kernel_rfl) (by kernel_rfl) (fun _ _ _ h => h) (by rfl) hSE ?_ ?_; rotate_left; (focus (intro w hSw; (try dsimp only at hSw); go_simp; (try with_reducible rfl))); simp only [Act.put, List.setIfInBounds_toArray, List.set_cons_zero, List.set_cons_succ])
        (refine WE_take (i := 3) (v := ?_) rfl (by kernel_rfl) (by decide) (by kernel_rfl) (by kernel_rfl) (fun _ _ _ h => h) (by rfl) hSE ?_ ?_; rotate_left; (focus (intro w hSw; (try dsimp only at hSw); go_simp; (try with_reducible rfl))); simp only [Act.put, List.setIfInBounds_toArray, List.set_cons_zero, List.set_cons_succ])
        (refine WE_take (i := 4) (v := ?_) rfl (by kernel_rfl) (by decide) (by kernel_rfl) (by kernel_rfl) (fun _ _ _ h => h) (by rfl) hSE ?_ ?_; rotate_left; (focus (intro w hSw; (try dsimp only at hSw); go_simp; (try with_reducible rfl))); simp only [Act.put, List.setIfInBounds_toArray, List.set_cons_zero, List.set_cons_succ])
        (refine WE_take (i := 5) (v := ?_) rfl (by kernel_rfl) (by decide) (by kernel_rfl) (by kernel_rfl) (fun _ _ _ h => h) (by rfl) hSE ?_ ?_; rotate_left; (focus (intro w hSw; (try dsimp only at hSw); go_simp; (try with_reducible rfl))); simp only [Act.put, List.setIfInBounds_toArray, List.set_cons_zero, List.set_cons_succ])
        (refine WE_take (i := 6) (v := ?_) rfl (by kernel_rfl) (by decide) (by kernel_rfl) (by kernel_rfl) (fun _ _ _ h => h) (by rfl) hSE ?_ ?_; rotate_left; (focus (intro w hSw; (try dsimp only at hSw); go_simp; (try with_reducible rfl))); simp only [Act.put, List.setIfInBounds_toArray, List.set_cons_zero, List.set_cons_succ])
        (refine WE_take (i := 7) (v := ?_) rfl (by kernel_rfl) (by decide) (by kernel_rfl) (by kernel_rfl) (fun _ _ _ h => h) (by rfl) hSE ?_ ?_; rotate_left; (focus (intro w hSw; (try dsimp only at hSw); go_simp; (try with_reducible rfl))); simp only [Act.put, List.setIfInBounds_toArray, List.set_cons_zero, List.set_cons_succ])
        (refine WE_take (i := 8) (v := ?_) rfl (by kernel_rfl) (by decide) (by kernel_rfl) (by kernel_rfl) (fun _ _ _ h => h) (by rfl) hSE ?_ ?_; rotate_left; (focus (intro w hSw; (try dsimp only at hSw); go_simp; (try with_reducible rfl))); simp only [Act.put, List.setIfInBounds_toArray, List.set_cons_zero, List.set_cons_succ])
        (refine WE_take (i := 9) (v := ?_) rfl (by kernel_rfl) (by decide) (by kernel_rfl) (by kernel_rfl) (fun _ _ _ h => h) (by rfl) hSE ?_ ?_; rotate_left; (focus (intro w hSw; (try dsimp only at hSw); go_simp; (try with_reducible rfl))); simp only [Act.put, List.setIfInBounds_toArray, List.set_cons_zero, List.set_cons_succ])
        (refine WE_take (i := 10) (v := ?_) rfl (by kernel_rfl) (by decide) (by kernel_rfl) (by kernel_rfl) (fun _ _ _ h => h) (by rfl) hSE ?_ ?_; rotate_left; (focus (intro w hSw; (try dsimp only at hSw); go_simp; (try with_reducible rfl))); simp only [Act.put, List.setIfInBounds_toArray, List.set_cons_zero, List.set_cons_succ])
        (refine WE_one (i := 11) rfl (by decide) (by kernel_rfl) ?_; intro K hK)
        go_simp
        refine (byHourW_calls x y Wd).mono ?_
        rintro e wz ⟨rfl, nz, oz, rfl⟩
        have HK := hid ((unhid HK).grown nz oz)
        generalize grow (Wd.drewN nz) oz = w5 at *
        refine hK.out _ _ ((unhid HSF) _ (unhid HK)) ?_
        clear hSE hK K
        intro hSE
        (try simp only [Act.put, List.setIfInBounds_toArray, List.set_cons_zero, List.set_cons_succ])
        (refine WE_take (i := 12) (v := ?_) rfl (by kernel_rfl) (by decide) (by kernel_rfl) (by kernel_rfl) (fun _ _ _ h => h) (by rfl) hSE ?_ ?_; rotate_left; (focus (intro w hSw; (try dsimp only at hSw); go_simp; (try with_reducible rfl))); simp only [Act.put, List.setIfInBounds_toArray, List.set_cons_zero, List.set_cons_succ])
        (refine WE_last rfl (by kernel_rfl) (by kernel_rfl) (by kernel_rfl) ?_; intro K hK; go_simp; refine hK.out _ _ (NoPanic.normal ?_); clear hK K)
        clear hSE HSF
        go_wp2_with fail
        go_roundw
        case rel => exact ⟨h + 1, j, by go_num, rfl, unhid HN, unhid HK⟩
        case measure => have h1 := unhid HB3; simp [intOf]; omega
    · obtain rfl : i = j := by omega
      have hnn : ¬ (i : Int) < (i : Int) := by omega
      have hc := (unhid HCUT)
      have hMd := unhid HMID
      obtain ⟨q1, q2, q3, q4, q5⟩ := hMd
      clear hc
      have hbN : b - a ≤ N + 1 := (unhid HSZ).2.2.2.2.2
      by_cases g7 : i < m
      · by_cases g8 : m < mid + m - i
        · have c5 : (i : Int) < (m : Int) := by omega
          have c6 : (m : Int) < (mid : Int) + (m : Int) - (i : Int) := by omega
          go_wp2_with fail
          refine (rotate_calls (unhid HR) _ i m (mid + m - i) cap _ _ _ d wr (unhid HK) (unhid HSZ).2.1 (by omega) (by omega) (by omega) (unhid HSZ).1 rfl rfl (by omega)).mono ?_
          rintro e w5 ⟨rfl, d1, hrot, hk1⟩
          have HK := hid hk1
          clear hk1
          obtain ⟨hA, hB, hX⟩ := (unhid HIN).split (unhid HRL) (unhid HMID) (unhid HCUT) hrot (by have := (unhid HSZ).2.1; omega)
          have HA := hid hA
          have HB := hid hB
          have HX := hid hX
          have HROT := hid (⟨hrot.perm a b (by omega) (by omega) (by have := (unhid HSZ).2.1; omega), trivial⟩ : PermIn a b d _ ∧ True)
          have HSD := hid (show _ = d0.size from hrot.size.trans (unhid HSZ).2.1)
          clear hA hB hX hrot
          by_cases g5 : a < i
          · by_cases g6 : i < mid
            · have c1 : (a : Int) < (i : Int) := by omega
              have c2 : (i : Int) < (mid : Int) := by omega
              go_wp2_with fail
              refine ((unhid IH) a i mid _ _ _ _ _ (by omega) rfl rfl rfl (unhid HK) (unhid HSD) (by omega) (by omega) (by omega) (unhid HA)).mono ?_
              rintro e w6 ⟨rfl, d2, hm2, hk2⟩
              have HK := hid hk2
              have HM1 := hid hm2
              have HSD := hid (show d2.size = d0.size from hm2.perm.1.trans (unhid HSD))
              have HB := hid ((unhid HB).congr (fun t h1 h2 => hm2.perm.2.1 t (.inr h1)) (by omega) (by omega))
              clear hm2 hk2
              by_cases g3 : mid < mid + m - i
              · by_cases g4 : mid + m - i < b
                · have c3 : (mid : Int) < (mid : Int) + (m : Int) - (i : Int) := by omega
                  have c4 : (mid : Int) + (m : Int) - (i : Int) < (b : Int) := by omega
                  go_wp2_with fail
                  refine ((unhid IH) mid (mid + m - i) b _ _ _ _ _ (by omega) rfl (by omega) rfl (unhid HK) (unhid HSD) (by omega) (by omega) (by omega) (unhid HB)).mono ?_
                  rintro e w7 ⟨rfl, d3, hm3, hk3⟩
                  have HK := hid hk3
                  have HM2 := hid hm3
                  clear hm3 hk3
                  have HP := hid (show MgPost w0 blk off Rl a b d (.returned (.tuple #[])) _ from ⟨rfl, _, merged (unhid HROT).1 (unhid HX) (unhid HM1) (unhid HM2) (by omega) (by omega) (by have := (unhid HSZ).2.1; omega), unhid HK⟩)
                  go_wp2_with fail
                  go_end0
                  exact unhid HP
                · have c3 : (mid : Int) < (mid : Int) + (m : Int) - (i : Int) := by omega
                  have c4 : ¬ (mid : Int) + (m : Int) - (i : Int) < (b : Int) := by omega
                  have HM2 := hid ((unhid HB).edge (by omega))
                  have HP := hid (show MgPost w0 blk off Rl a b d (.returned (.tuple #[])) _ from ⟨rfl, _, merged (unhid HROT).1 (unhid HX) (unhid HM1) (unhid HM2) (by omega) (by omega) (by have := (unhid HSZ).2.1; omega), unhid HK⟩)
                  go_wp2_with fail
                  go_end0
                  exact unhid HP
              · exfalso
                omega
            · exfalso
              omega
          · have c1 : ¬ (a : Int) < (i : Int) := by omega
            have HM1 := hid ((unhid HA).edge (by omega))
            by_cases g3 : mid < mid + m - i
            · by_cases g4 : mid + m - i < b
              · have c3 : (mid : Int) < (mid : Int) + (m : Int) - (i : Int) := by omega
                have c4 : (mid : Int) + (m : Int) - (i : Int) < (b : Int) := by omega
                go_wp2_with fail
                refine ((unhid IH) mid (mid + m - i) b _ _ _ _ _ (by omega) rfl (by omega) rfl (unhid HK) (unhid HSD) (by omega) (by omega) (by omega) (unhid HB)).mono ?_
                rintro e w7 ⟨rfl, d3, hm3, hk3⟩
                have HK := hid hk3
                have HM2 := hid hm3
                clear hm3 hk3
                have HP := hid (show MgPost w0 blk off Rl a b d (.returned (.tuple #[])) _ from ⟨rfl, _, merged (unhid HROT).1 (unhid HX) (unhid HM1) (unhid HM2) (by omega) (by omega) (by have := (unhid HSZ).2.1; omega), unhid HK⟩)
                go_wp2_with fail
                go_end0
                exact unhid HP
              · have c3 : (mid : Int) < (mid : Int) + (m : Int) - (i : Int) := by omega
                have c4 : ¬ (mid : Int) + (m : Int) - (i : Int) < (b : Int) := by omega
                have HM2 := hid ((unhid HB).edge (by omega))
                have HP := hid (show MgPost w0 blk off Rl a b d (.returned (.tuple #[])) _ from ⟨rfl, _, merged (unhid HROT).1 (unhid HX) (unhid HM1) (unhid HM2) (by omega) (by omega) (by have := (unhid HSZ).2.1; omega), unhid HK⟩)
                go_wp2_with fail
                go_end0
                exact unhid HP
            · exfalso
              omega
        · have c5 : (i : Int) < (m : Int) := by omega
          have c6 : ¬ (m : Int) < (mid : Int) + (m : Int) - (i : Int) := by omega
          have hrot : RotI d i m (mid + m - i) d := RotI.none d (by omega) (by omega) (by omega)
          obtain ⟨hA, hB, hX⟩ := (unhid HIN).split (unhid HRL) (unhid HMID) (unhid HCUT) hrot (by have := (unhid HSZ).2.1; omega)
          have HA := hid hA
          have HB := hid hB
          have HX := hid hX
          have HROT := hid (⟨hrot.perm a b (by omega) (by omega) (by have := (unhid HSZ).2.1; omega), trivial⟩ : PermIn a b d _ ∧ True)
          have HSD := hid (show _ = d0.size from hrot.size.trans (unhid HSZ).2.1)
          clear hA hB hX hrot
          by_cases g5 : a < i
          · by_cases g6 : i < mid
            · exfalso
              omega
            · have c1 : (a : Int) < (i : Int) := by omega
              have c2 : ¬ (i : Int) < (mid : Int) := by omega
              have HM1 := hid ((unhid HA).edge (by omega))
              by_cases g3 : mid < mid + m - i
              · by_cases g4 : mid + m - i < b
                · have c3 : (mid : Int) < (mid : Int) + (m : Int) - (i : Int) := by omega
                  have c4 : (mid : Int) + (m : Int) - (i : Int) < (b : Int) := by omega
                  go_wp2_with fail
                  refine ((unhid IH) mid (mid + m - i) b _ _ _ _ _ (by omega) rfl (by omega) rfl (unhid HK) (unhid HSD) (by omega) (by omega) (by omega) (unhid HB)).mono ?_
                  rintro e w7 ⟨rfl, d3, hm3, hk3⟩
                  have HK := hid hk3
                  have HM2 := hid hm3
                  clear hm3 hk3
                  have HP := hid (show MgPost w0 blk off Rl a b d (.returned (.tuple #[])) _ from ⟨rfl, _, merged (unhid HROT).1 (unhid HX) (unhid HM1) (unhid HM2) (by omega) (by omega) (by have := (unhid HSZ).2.1; omega), unhid HK⟩)
                  go_wp2_with fail
                  go_end0
                  exact unhid HP
                · exfalso
                  omega
              · exfalso
                omega
          · exfalso
            omega
      · exfalso
        omega

set_option maxHeartbeats 8000000 in
set_option maxRecDepth 100000 in
theorem mg4_calls {w0 : World} {blk off : Nat} {d0 : Array Rc} (R : RowK rcC 14 w0 blk off d0) {Rl : Rc → Rc → Prop} (hRl : Strict Rl) (cap : Nat) (hsz : d0.size ≤ 1000000) (N : Nat) (ih : ∀ (a m b : Nat) (ai mi bi : Int) (d : Array Rc) (w : World), b - a ≤ N → ai = (a : Int) → mi = (m : Int) → bi = (b : Int) → SWK rcC 14 w0 blk off d w → d.size = d0.size → a < m → m < b → b ≤ d0.size → MrgIn Rl hrI d a m b →
    Calls Try.prog 158 #[.slice (some ⟨blk, off, none⟩) d0.size cap, .int .i64 ai, .int .i64 mi, .int .i64 bi, .func (.func 116) #[] #[]] w fun e w' => MgPost w0 blk off Rl a b d e w')
    (a m b : Nat) (d : Array Rc) (w : World) (hN : b - a ≤ N + 1) (h : SWK rcC 14 w0 blk off d w) (hs : d.size = d0.size) (ham : a < m) (hmb : m < b) (hb : b ≤ d0.size) (hin : MrgIn Rl hrI d a m b) (h1 : ¬ m = a + 1) (h2 : ¬ b = m + 1) (mid : Nat) (hmid : mid = (a + b) / 2) (hmm : ¬ mid < m) :
    Calls Try.prog 158 #[.slice (some ⟨blk, off, none⟩) d0.size cap, .int .i64 (a : Int), .int .i64 (m : Int), .int .i64 (b : Int), .func (.func 116) #[] #[]] w fun e w' => MgPost w0 blk off Rl a b d e w' := by
  have mixed : Try.prog.follows .mixedOrders = true := by kernel_rfl
  have HR := hid R
  have HRL := hid hRl
  have HK := hid h
  have HIN := hid hin
  have IH := hid ih
  have HSZ := hid (show d0.size ≤ 1000000 ∧ d.size = d0.size ∧ b ≤ d0.size ∧ a < m ∧ m < b ∧ b - a ≤ N + 1 from ⟨hsz, hs, hb, ham, hmb, hN⟩)
  clear h hin ih
  go_enter Try.func158, Try.ntmps158
  have q1 : ((m : Int) - (a : Int) == 1) = false := beq_eq_false_iff_ne.2 (by omega)
  have r1 : IntKind.i64.wrap ((m : Int) - (a : Int)) = (m : Int) - (a : Int) := by rw [IntKind.wrap_i64]; omega
  have q2 : ((b : Int) - (m : Int) == 1) = false := beq_eq_false_iff_ne.2 (by omega)
  have r2 : IntKind.i64.wrap ((b : Int) - (m : Int)) = (b : Int) - (m : Int) := by rw [IntKind.wrap_i64]; omega
  have HMI := hid hmid
  have hM6 : mid * 2 ≤ a + b ∧ a + b ≤ mid * 2 + 1 := by omega
  clear hmid
  go_upto_region 25 with (fail)
  have hq := half_u64 (unhid HMI)
  rw [hq]
  clear hq
  have HMID := hid (show Mid a m b mid (a) (m) from ⟨by omega, by omega, by omega, by omega, .inr ⟨by omega, rfl, rfl⟩⟩)
  have hmi : ¬ (m : Int) > (mid : Int) := by omega
  go_upto_region 33 with (fail)
  clear q1 r1 q2 r2 hmi
  go_loopw [20, 21] (fun iv jv wr => ∃ (i j : Nat), iv = .int .i64 i ∧ jv = .int .i64 j ∧ Cut (tst3 d (mid + m - 1)) (a) (m) i j ∧ SWK rcC 14 w0 blk off d wr) (fun iv jv _ => (intOf jv).toNat - (intOf iv).toNat)
  case atStart => exact ⟨a, m, by first | rfl | (congr 1; omega), rfl, Cut.start (by omega), unhid HK⟩
  case round =>
    clear HK
    obtain ⟨i, j, rfl, rfl, hcut, hk⟩ := hrel
    have HCUT := hid hcut
    have HK := hid hk
    have hb3 : (a) ≤ i ∧ i ≤ j ∧ j ≤ (m) := ⟨hcut.li, hcut.ij, hcut.jh⟩
    clear hcut hk
    by_cases hlt : i < j
    · have hlti : (i : Int) < (j : Int) := by omega
      go_upto_region 35 with (fail)
      obtain ⟨h, hh⟩ : ∃ h, h = (i + j) / 2 := ⟨_, rfl⟩
      have hq := half_u64 hh
      rw [hq]
      have HB3 := hid (show i ≤ h ∧ h < j from by omega)
      have hb4 : i ≤ h ∧ h < j := unhid HB3
      clear hq hh
      by_cases hp : hrI d[mid + m - 1 - h]! d[h]! < 0
      · have HN := hid ((unhid HCUT).left ((unhid HIN).monoM (unhid HRL) (unhid HMID)) (by omega) (by omega) (fun hn => hn hp))
        have eax : ((mid : Int) + (m : Int) - 1 - (h : Int)).toNat = mid + m - 1 - h := by omega
        have pax : (0 : Int) ≤ (mid : Int) + (m : Int) - 1 - (h : Int) := by omega
        have bax : (mid : Int) + (m : Int) - 1 - (h : Int) < (d0.size : Int) := by omega
        have rax : IntKind.i64.wrap ((mid : Int) + (m : Int) - 1 - (h : Int)) = (mid : Int) + (m : Int) - 1 - (h : Int) := by rw [IntKind.wrap_i64]; omega
        have eay : ((h : Int)).toNat = h := by omega
        have pay : (0 : Int) ≤ (h : Int) := by omega
        have bay : (h : Int) < (d0.size : Int) := by omega
        have ray : IntKind.i64.wrap ((h : Int)) = (h : Int) := by rw [IntKind.wrap_i64]; omega
        have pax2 : (h : Int) ≤ (mid : Int) + (m : Int) - 1 := by omega
        obtain ⟨x, hx⟩ : ∃ x, x = d[mid + m - 1 - h]! := ⟨_, rfl⟩
        obtain ⟨y, hy⟩ : ∃ y, y = d[h]! := ⟨_, rfl⟩
        have HSF := hid (show ∀ w', SWK rcC 14 w0 blk off d w' → (w'.cell? ⟨blk, off + (mid + m - 1 - h) * 14, none⟩ = some (.int .i64 x.tab) ∧ w'.cell? ⟨blk, off + (mid + m - 1 - h) * 14 + 1, none⟩ = some (.int .i64 x.num) ∧ w'.cell? ⟨blk, off + (mid + m - 1 - h) * 14 + 2, none⟩ = some (.int .i64 x.hour) ∧ w'.cell? ⟨blk, off + (mid + m - 1 - h) * 14 + 3, none⟩ = some (.int .i64 x.sign) ∧ w'.cell? ⟨blk, off + (mid + m - 1 - h) * 14 + 4, none⟩ = some (.int .i64 x.fld) ∧ w'.cell? ⟨blk, off + (mid + m - 1 - h) * 14 + 5, none⟩ = some (.int .i64 x.val) ∧ w'.cell? ⟨blk, off + (mid + m - 1 - h) * 14 + 6, none⟩ = some (.int .i64 x.s0) ∧ w'.cell? ⟨blk, off + (mid + m - 1 - h) * 14 + 7, none⟩ = some (.int .i64 x.s1) ∧ w'.cell? ⟨blk, off + (mid + m - 1 - h) * 14 + 8, none⟩ = some (.int .i64 x.s2) ∧ w'.cell? ⟨blk, off + (mid + m - 1 - h) * 14 + 9, none⟩ = some (.int .i64 x.s3) ∧ w'.cell? ⟨blk, off + (mid + m - 1 - h) * 14 + 10, none⟩ = some (.int .i64 x.s4) ∧ w'.cell? ⟨blk, off + (mid + m - 1 - h) * 14 + 11, none⟩ = some (.int .i64 x.s5) ∧ w'.cell? ⟨blk, off + (mid + m - 1 - h) * 14 + 12, none⟩ = some (.int .i64 x.s6) ∧ w'.cell? ⟨blk, off + (mid + m - 1 - h) * 14 + 13, none⟩ = some (.int .i64 x.s7)) ∧ (w'.cell? ⟨blk, off + (h) * 14, none⟩ = some (.int .i64 y.tab) ∧ w'.cell? ⟨blk, off + (h) * 14 + 1, none⟩ = some (.int .i64 y.num) ∧ w'.cell? ⟨blk, off + (h) * 14 + 2, none⟩ = some (.int .i64 y.hour) ∧ w'.cell? ⟨blk, off + (h) * 14 + 3, none⟩ = some (.int .i64 y.sign) ∧ w'.cell? ⟨blk, off + (h) * 14 + 4, none⟩ = some (.int .i64 y.fld) ∧ w'.cell? ⟨blk, off + (h) * 14 + 5, none⟩ = some (.int .i64 y.val) ∧ w'.cell? ⟨blk, off + (h) * 14 + 6, none⟩ = some (.int .i64 y.s0) ∧ w'.cell? ⟨blk, off + (h) * 14 + 7, none⟩ = some (.int .i64 y.s1) ∧ w'.cell? ⟨blk, off + (h) * 14 + 8, none⟩ = some (.int .i64 y.s2) ∧ w'.cell? ⟨blk, off + (h) * 14 + 9, none⟩ = some (.int .i64 y.s3) ∧ w'.cell? ⟨blk, off + (h) * 14 + 10, none⟩ = some (.int .i64 y.s4) ∧ w'.cell? ⟨blk, off + (h) * 14 + 11, none⟩ = some (.int .i64 y.s5) ∧ w'.cell? ⟨blk, off + (h) * 14 + 12, none⟩ = some (.int .i64 y.s6) ∧ w'.cell? ⟨blk, off + (h) * 14 + 13, none⟩ = some (.int .i64 y.s7)) from fun w' hk => ⟨swk_cells14 (i := mid + m - 1 - h) hk (unhid HR) (by omega) (by omega) hx, swk_cells14 (i := h) hk (unhid HR) (by omega) (by omega) hy⟩)
        have hd : decide (hrI x y < 0) = true := decide_eq_true (by rw [hx, hy]; exact hp)
        clear hx hy hp
        go_wp2_with fail
        refine wp_region_noPanic ?_
        refine wp_region_E (S := fun w' => (w'.cell? ⟨blk, off + (mid + m - 1 - h) * 14, none⟩ = some (.int .i64 x.tab) ∧ w'.cell? ⟨blk, off + (mid + m - 1 - h) * 14 + 1, none⟩ = some (.int .i64 x.num) ∧ w'.cell? ⟨blk, off + (mid + m - 1 - h) * 14 + 2, none⟩ = some (.int .i64 x.hour) ∧ w'.cell? ⟨blk, off + (mid + m - 1 - h) * 14 + 3, none⟩ = some (.int .i64 x.sign) ∧ w'.cell? ⟨blk, off + (mid + m - 1 - h) * 14 + 4, none⟩ = some (.int .i64 x.fld) ∧ w'.cell? ⟨blk, off + (mid + m - 1 - h) * 14 + 5, none⟩ = some (.int .i64 x.val) ∧ w'.cell? ⟨blk, off + (mid + m - 1 - h) * 14 + 6, none⟩ = some (.int .i64 x.s0) ∧ w'.cell? ⟨blk, off + (mid + m - 1 - h) * 14 + 7, none⟩ = some (.int .i64 x.s1) ∧ w'.cell? ⟨blk, off + (mid + m - 1 - h) * 14 + 8, none⟩ = some (.int .i64 x.s2) ∧ w'.cell? ⟨blk, off + (mid + m - 1 - h) * 14 + 9, none⟩ = some (.int .i64 x.s3) ∧ w'.cell? ⟨blk, off + (mid + m - 1 - h) * 14 + 10, none⟩ = some (.int .i64 x.s4) ∧ w'.cell? ⟨blk, off + (mid + m - 1 - h) * 14 + 11, none⟩ = some (.int .i64 x.s5) ∧ w'.cell? ⟨blk, off + (mid + m - 1 - h) * 14 + 12, none⟩ = some (.int .i64 x.s6) ∧ w'.cell? ⟨blk, off + (mid + m - 1 - h) * 14 + 13, none⟩ = some (.int .i64 x.s7)) ∧ (w'.cell? ⟨blk, off + (h) * 14, none⟩ = some (.int .i64 y.tab) ∧ w'.cell? ⟨blk, off + (h) * 14 + 1, none⟩ = some (.int .i64 y.num) ∧ w'.cell? ⟨blk, off + (h) * 14 + 2, none⟩ = some (.int .i64 y.hour) ∧ w'.cell? ⟨blk, off + (h) * 14 + 3, none⟩ = some (.int .i64 y.sign) ∧ w'.cell? ⟨blk, off + (h) * 14 + 4, none⟩ = some (.int .i64 y.fld) ∧ w'.cell? ⟨blk, off + (h) * 14 + 5, none⟩ = some (.int .i64 y.val) ∧ w'.cell? ⟨blk, off + (h) * 14 + 6, none⟩ = some (.int .i64 y.s0) ∧ w'.cell? ⟨blk, off + (h) * 14 + 7, none⟩ = some (.int .i64 y.s1) ∧ w'.cell? ⟨blk, off + (h) * 14 + 8, none⟩ = some (.int .i64 y.s2) ∧ w'.cell? ⟨blk, off + (h) * 14 + 9, none⟩ = some (.int .i64 y.s3) ∧ w'.cell? ⟨blk, off + (h) * 14 + 10, none⟩ = some (.int .i64 y.s4) ∧ w'.cell? ⟨blk, off + (h) * 14 + 11, none⟩ = some (.int .i64 y.s5) ∧ w'.cell? ⟨blk, off + (h) * 14 + 12, none⟩ = some (.int .i64 y.s6) ∧ w'.cell? ⟨blk, off + (h) * 14 + 13, none⟩ = some (.int .i64 y.s7))) 13 14 rfl (by kernel_rfl) (by kernel_rfl) ((unhid HSF) _ (unhid HK).drew) ?_
        intro hSE
        have HK := hid (unhid HK).drew
        generalize wr.drew = Wd at *
        (refine WE_take (i := 0) (v := ?_) rfl (by kernel_rfl) (by decide) (by kernel_rfl) (by kernel_rfl) (fun _ _ _ h => h) (by rfl) hSE ?_ ?_; rotate_left; (focus (intro w hSw; (try dsimp only at hSw); go_simp; (try with_reducible rfl))); simp only [Act.put, List.setIfInBounds_toArray, List.set_cons_zero, List.set_cons_succ])
        (refine WE_take (i := 1) (v := ?_) rfl (by kernel_rfl) (by decide) (by kernel_rfl) (by kernel_rfl) (fun _ _ _ h => h) (by rfl) hSE ?_ ?_; rotate_left; (focus (intro w hSw; (try dsimp only at hSw); go_simp; (try with_reducible rfl))); simp only [Act.put, List.setIfInBounds_toArray, List.set_cons_zero, List.set_cons_succ])
        (refine WE_take (i := 2) (v := ?_) rfl (by kernel_rfl) (by decide) (by kernel_rfl) (by kernel_rfl) (fun _ _ _ h => h) (by rfl) hSE ?_ ?_; rotate_left; (focus (intro w hSw; (try dsimp only at hSw); go_simp; (try with_reducible rfl))); simp only [Act.put, List.setIfInBounds_toArray, List.set_cons_zero, List.set_cons_succ])
        (refine WE_take (i := 3) (v := ?_) rfl (by kernel_rfl) (by decide) (by kernel_rfl) (by kernel_rfl) (fun _ _ _ h => h) (by rfl) hSE ?_ ?_; rotate_left; (focus (intro w hSw; (try dsimp only at hSw); go_simp; (try with_reducible rfl))); simp only [Act.put, List.setIfInBounds_toArray, List.set_cons_zero, List.set_cons_succ])
        (refine WE_take (i := 4) (v := ?_) rfl (by kernel_rfl) (by decide) (by kernel_rfl) (by kernel_rfl) (fun _ _ _ h => h) (by rfl) hSE ?_ ?_; rotate_left; (focus (intro w hSw; (try dsimp only at hSw); go_simp; (try with_reducible rfl))); simp only [Act.put, List.setIfInBounds_toArray, List.set_cons_zero, List.set_cons_succ])
        (refine WE_take (i := 5) (v := ?_) rfl (by kernel_rfl) (by decide) (by kernel_rfl) (by kernel_rfl) (fun _ _ _ h => h) (by rfl) hSE ?_ ?_; rotate_left; (focus (intro w hSw; (try dsimp only at hSw); go_simp; (try with_reducible rfl))); simp only [Act.put, List.setIfInBounds_toArray, List.set_cons_zero, List.set_cons_succ])
        (refine WE_take (i := 6) (v := ?_) rfl (by kernel_rfl) (by decide) (by kernel_rfl) (by kernel_rfl) (fun _ _ _ h => h) (by rfl) hSE ?_ ?_; rotate_left; (focus (intro w hSw; (try dsimp only at hSw); go_simp; (try with_reducible rfl))); simp only [Act.put, List.setIfInBounds_toArray, List.set_cons_zero, List.set_cons_succ])
        (refine WE_take (i := 7) (v := ?_) rfl (by kernel_rfl) (by decide) (by kernel_rfl) (by kernel_rfl) (fun _ _ _ h => h) (by rfl) hSE ?_ ?_; rotate_left; (focus (intro w hSw; (try dsimp only at hSw); go_simp; (try with_reducible rfl))); simp only [Act.put, List.setIfInBounds_toArray, List.set_cons_zero, List.set_cons_succ])
        (refine WE_take (i := 8) (v := ?_) rfl (by kernel_rfl) (by decide) (by kernel_rfl) (by kernel_rfl) (fun _ _ _ h => h) (by rfl) hSE ?_ ?_; rotate_left; (focus (intro w hSw; (try dsimp only at hSw); go_simp; (try with_reducible rfl))); simp only [Act.put, List.setIfInBounds_toArray, List.set_cons_zero, List.set_cons_succ])
        (refine WE_take (i := 9) (v := ?_) rfl (by kernel_rfl) (by decide) (by kernel_rfl) (by kernel_rfl) (fun _ _ _ h => h) (by rfl) hSE ?_ ?_; rotate_left; (focus (intro w hSw; (try dsimp only at hSw); go_simp; (try with_reducible rfl))); simp only [Act.put, List.setIfInBounds_toArray, List.set_cons_zero, List.set_cons_succ])
        (refine WE_take (i := 10) (v := ?_) rfl (by kernel_rfl) (by decide) (by kernel_rfl) (by kernel_rfl) (fun _ _ _ h => h) (by rfl) hSE ?_ ?_; rotate_left; (focus (intro w hSw; (try dsimp only at hSw); go_simp; (try with_reducible rfl))); simp only [Act.put, List.setIfInBounds_toArray, List.set_cons_zero, List.set_cons_succ])
        (refine WE_one (i := 11) rfl (by decide) (by kernel_rfl) ?_; intro K hK)
        go_simp
        refine (byHourW_calls x y Wd).mono ?_
        rintro e wz ⟨rfl, nz, oz, rfl⟩
        have HK := hid ((unhid HK).grown nz oz)
        generalize grow (Wd.drewN nz) oz = w5 at *
        refine hK.out _ _ ((unhid HSF) _ (unhid HK)) ?_
        clear hSE hK K
        intro hSE
        (try simp only [Act.put, List.setIfInBounds_toArray, List.set_cons_zero, List.set_cons_succ])
        (refine WE_take (i := 12) (v := ?_) rfl (by kernel_rfl) (by decide) (by kernel_rfl) (by kernel_rfl) (fun _ _ _ h => h) (by rfl) hSE ?_ ?_; rotate_left; (focus (intro w hSw; (try dsimp only at hSw); go_simp; (try with_reducible rfl))); simp only [Act.put, List.setIfInBounds_toArray, List.set_cons_zero, List.set_cons_succ])
        (refine WE_last rfl (by kernel_rfl) (by kernel_rfl) (by kernel_rfl) ?_; intro K hK; go_simp; refine hK.out _ _ (NoPanic.normal ?_); clear hK K)
        clear hSE HSF
        go_wp2_with fail
        go_roundw
        case rel => exact ⟨i, h, rfl, rfl, unhid HN, unhid HK⟩
        case measure => have h1 := unhid HB3; simp [intOf]; omega
      · have HN := hid ((unhid HCUT).right ((unhid HIN).monoM (unhid HRL) (unhid HMID)) (by omega) (by omega) hp)
        have eax : ((mid : Int) + (m : Int) - 1 - (h : Int)).toNat = mid + m - 1 - h := by omega
        have pax : (0 : Int) ≤ (mid : Int) + (m : Int) - 1 - (h : Int) := by omega
        have bax : (mid : Int) + (m : Int) - 1 - (h : Int) < (d0.size : Int) := by omega
        have rax : IntKind.i64.wrap ((mid : Int) + (m : Int) - 1 - (h : Int)) = (mid : Int) + (m : Int) - 1 - (h : Int) := by rw [IntKind.wrap_i64]; omega
        have eay : ((h : Int)).toNat = h := by omega
        have pay : (0 : Int) ≤ (h : Int) := by omega
        have bay : (h : Int) < (d0.size : Int) := by omega
        have ray : IntKind.i64.wrap ((h : Int)) = (h : Int) := by rw [IntKind.wrap_i64]; omega
        have pax2 : (h : Int) ≤ (mid : Int) + (m : Int) - 1 := by omega
        obtain ⟨x, hx⟩ : ∃ x, x = d[mid + m - 1 - h]! := ⟨_, rfl⟩
        obtain ⟨y, hy⟩ : ∃ y, y = d[h]! := ⟨_, rfl⟩
        have HSF := hid (show ∀ w', SWK rcC 14 w0 blk off d w' → (w'.cell? ⟨blk, off + (mid + m - 1 - h) * 14, none⟩ = some (.int .i64 x.tab) ∧ w'.cell? ⟨blk, off + (mid + m - 1 - h) * 14 + 1, none⟩ = some (.int .i64 x.num) ∧ w'.cell? ⟨blk, off + (mid + m - 1 - h) * 14 + 2, none⟩ = some (.int .i64 x.hour) ∧ w'.cell? ⟨blk, off + (mid + m - 1 - h) * 14 + 3, none⟩ = some (.int .i64 x.sign) ∧ w'.cell? ⟨blk, off + (mid + m - 1 - h) * 14 + 4, none⟩ = some (.int .i64 x.fld) ∧ w'.cell? ⟨blk, off + (mid + m - 1 - h) * 14 + 5, none⟩ = some (.int .i64 x.val) ∧ w'.cell? ⟨blk, off + (mid + m - 1 - h) * 14 + 6, none⟩ = some (.int .i64 x.s0) ∧ w'.cell? ⟨blk, off + (mid + m - 1 - h) * 14 + 7, none⟩ = some (.int .i64 x.s1) ∧ w'.cell? ⟨blk, off + (mid + m - 1 - h) * 14 + 8, none⟩ = some (.int .i64 x.s2) ∧ w'.cell? ⟨blk, off + (mid + m - 1 - h) * 14 + 9, none⟩ = some (.int .i64 x.s3) ∧ w'.cell? ⟨blk, off + (mid + m - 1 - h) * 14 + 10, none⟩ = some (.int .i64 x.s4) ∧ w'.cell? ⟨blk, off + (mid + m - 1 - h) * 14 + 11, none⟩ = some (.int .i64 x.s5) ∧ w'.cell? ⟨blk, off + (mid + m - 1 - h) * 14 + 12, none⟩ = some (.int .i64 x.s6) ∧ w'.cell? ⟨blk, off + (mid + m - 1 - h) * 14 + 13, none⟩ = some (.int .i64 x.s7)) ∧ (w'.cell? ⟨blk, off + (h) * 14, none⟩ = some (.int .i64 y.tab) ∧ w'.cell? ⟨blk, off + (h) * 14 + 1, none⟩ = some (.int .i64 y.num) ∧ w'.cell? ⟨blk, off + (h) * 14 + 2, none⟩ = some (.int .i64 y.hour) ∧ w'.cell? ⟨blk, off + (h) * 14 + 3, none⟩ = some (.int .i64 y.sign) ∧ w'.cell? ⟨blk, off + (h) * 14 + 4, none⟩ = some (.int .i64 y.fld) ∧ w'.cell? ⟨blk, off + (h) * 14 + 5, none⟩ = some (.int .i64 y.val) ∧ w'.cell? ⟨blk, off + (h) * 14 + 6, none⟩ = some (.int .i64 y.s0) ∧ w'.cell? ⟨blk, off + (h) * 14 + 7, none⟩ = some (.int .i64 y.s1) ∧ w'.cell? ⟨blk, off + (h) * 14 + 8, none⟩ = some (.int .i64 y.s2) ∧ w'.cell? ⟨blk, off + (h) * 14 + 9, none⟩ = some (.int .i64 y.s3) ∧ w'.cell? ⟨blk, off + (h) * 14 + 10, none⟩ = some (.int .i64 y.s4) ∧ w'.cell? ⟨blk, off + (h) * 14 + 11, none⟩ = some (.int .i64 y.s5) ∧ w'.cell? ⟨blk, off + (h) * 14 + 12, none⟩ = some (.int .i64 y.s6) ∧ w'.cell? ⟨blk, off + (h) * 14 + 13, none⟩ = some (.int .i64 y.s7)) from fun w' hk => ⟨swk_cells14 (i := mid + m - 1 - h) hk (unhid HR) (by omega) (by omega) hx, swk_cells14 (i := h) hk (unhid HR) (by omega) (by omega) hy⟩)
        have hd : decide (hrI x y < 0) = false := decide_eq_false (by rw [hx, hy]; exact hp)
        clear hx hy hp
        go_wp2_with fail
        refine wp_region_noPanic ?_
        refine wp_region_E (S := fun w' => (w'.cell? ⟨blk, off + (mid + m - 1 - h) * 14, none⟩ = some (.int .i64 x.tab) ∧ w'.cell? ⟨blk, off + (mid + m - 1 - h) * 14 + 1, none⟩ = some (.int .i64 x.num) ∧ w'.cell? ⟨blk, off + (mid + m - 1 - h) * 14 + 2, none⟩ = some (.int .i64 x.hour) ∧ w'.cell? ⟨blk, off + (mid + m - 1 - h) * 14 + 3, none⟩ = some (.int .i64 x.sign) ∧ w'.cell? ⟨blk, off + (mid + m - 1 - h) * 14 + 4, none⟩ = some (.int .i64 x.fld) ∧ w'.cell? ⟨blk, off + (mid + m - 1 - h) * 14 + 5, none⟩ = some (.int .i64 x.val) ∧ w'.cell? ⟨blk, off + (mid + m - 1 - h) * 14 + 6, none⟩ = some (.int .i64 x.s0) ∧ w'.cell? ⟨blk, off + (mid + m - 1 - h) * 14 + 7, none⟩ = some (.int .i64 x.s1) ∧ w'.cell? ⟨blk, off + (mid + m - 1 - h) * 14 + 8, none⟩ = some (.int .i64 x.s2) ∧ w'.cell? ⟨blk, off + (mid + m - 1 - h) * 14 + 9, none⟩ = some (.int .i64 x.s3) ∧ w'.cell? ⟨blk, off + (mid + m - 1 - h) * 14 + 10, none⟩ = some (.int .i64 x.s4) ∧ w'.cell? ⟨blk, off + (mid + m - 1 - h) * 14 + 11, none⟩ = some (.int .i64 x.s5) ∧ w'.cell? ⟨blk, off + (mid + m - 1 - h) * 14 + 12, none⟩ = some (.int .i64 x.s6) ∧ w'.cell? ⟨blk, off + (mid + m - 1 - h) * 14 + 13, none⟩ = some (.int .i64 x.s7)) ∧ (w'.cell? ⟨blk, off + (h) * 14, none⟩ = some (.int .i64 y.tab) ∧ w'.cell? ⟨blk, off + (h) * 14 + 1, none⟩ = some (.int .i64 y.num) ∧ w'.cell? ⟨blk, off + (h) * 14 + 2, none⟩ = some (.int .i64 y.hour) ∧ w'.cell? ⟨blk, off + (h) * 14 + 3, none⟩ = some (.int .i64 y.sign) ∧ w'.cell? ⟨blk, off + (h) * 14 + 4, none⟩ = some (.int .i64 y.fld) ∧ w'.cell? ⟨blk, off + (h) * 14 + 5, none⟩ = some (.int .i64 y.val) ∧ w'.cell? ⟨blk, off + (h) * 14 + 6, none⟩ = some (.int .i64 y.s0) ∧ w'.cell? ⟨blk, off + (h) * 14 + 7, none⟩ = some (.int .i64 y.s1) ∧ w'.cell? ⟨blk, off + (h) * 14 + 8, none⟩ = some (.int .i64 y.s2) ∧ w'.cell? ⟨blk, off + (h) * 14 + 9, none⟩ = some (.int .i64 y.s3) ∧ w'.cell? ⟨blk, off + (h) * 14 + 10, none⟩ = some (.int .i64 y.s4) ∧ w'.cell? ⟨blk, off + (h) * 14 + 11, none⟩ = some (.int .i64 y.s5) ∧ w'.cell? ⟨blk, off + (h) * 14 + 12, none⟩ = some (.int .i64 y.s6) ∧ w'.cell? ⟨blk, off + (h) * 14 + 13, none⟩ = some (.int .i64 y.s7))) 13 14 rfl (by kernel_rfl) (by kernel_rfl) ((unhid HSF) _ (unhid HK).drew) ?_
        intro hSE
        have HK := hid (unhid HK).drew
        generalize wr.drew = Wd at *
        (refine WE_take (i := 0) (v := ?_) rfl (by kernel_rfl) (by decide) (by kernel_rfl) (by kernel_rfl) (fun _ _ _ h => h) (by rfl) hSE ?_ ?_; rotate_left; (focus (intro w hSw; (try dsimp only at hSw); go_simp; (try with_reducible rfl))); simp only [Act.put, List.setIfInBounds_toArray, List.set_cons_zero, List.set_cons_succ])
        (refine WE_take (i := 1) (v := ?_) rfl (by kernel_rfl) (by decide) (by kernel_rfl) (by kernel_rfl) (fun _ _ _ h => h) (by rfl) hSE ?_ ?_; rotate_left; (focus (intro w hSw; (try dsimp only at hSw); go_simp; (try with_reducible rfl))); simp only [Act.put, List.setIfInBounds_toArray, List.set_cons_zero, List.set_cons_succ])
        (refine WE_take (i := 2) (v := ?_) rfl (by kernel_rfl) (by decide) (by kernel_rfl) (by kernel_rfl) (fun _ _ _ h => h) (by rfl) hSE ?_ ?_; rotate_left; (focus (intro w hSw; (try dsimp only at hSw); go_simp; (try with_reducible rfl))); simp only [Act.put, List.setIfInBounds_toArray, List.set_cons_zero, List.set_cons_succ])
        (refine WE_take (i := 3) (v := ?_) rfl (by kernel_rfl) (by decide) (by kernel_rfl) (by kernel_rfl) (fun _ _ _ h => h) (by rfl) hSE ?_ ?_; rotate_left; (focus (intro w hSw; (try dsimp only at hSw); go_simp; (try with_reducible rfl))); simp only [Act.put, List.setIfInBounds_toArray, List.set_cons_zero, List.set_cons_succ])
        (refine WE_take (i := 4) (v := ?_) rfl (by kernel_rfl) (by decide) (by kernel_rfl) (by kernel_rfl) (fun _ _ _ h => h) (by rfl) hSE ?_ ?_; rotate_left; (focus (intro w hSw; (try dsimp only at hSw); go_simp; (try with_reducible rfl))); simp only [Act.put, List.setIfInBounds_toArray, List.set_cons_zero, List.set_cons_succ])
        (refine WE_take (i := 5) (v := ?_) rfl (by kernel_rfl) (by decide) (by kernel_rfl) (by kernel_rfl) (fun _ _ _ h => h) (by rfl) hSE ?_ ?_; rotate_left; (focus (intro w hSw; (try dsimp only at hSw); go_simp; (try with_reducible rfl))); simp only [Act.put, List.setIfInBounds_toArray, List.set_cons_zero, List.set_cons_succ])
        (refine WE_take (i := 6) (v := ?_) rfl (by kernel_rfl) (by decide) (by kernel_rfl) (by kernel_rfl) (fun _ _ _ h => h) (by rfl) hSE ?_ ?_; rotate_left; (focus (intro w hSw; (try dsimp only at hSw); go_simp; (try with_reducible rfl))); simp only [Act.put, List.setIfInBounds_toArray, List.set_cons_zero, List.set_cons_succ])
        (refine WE_take (i := 7) (v := ?_) rfl (by kernel_rfl) (by decide) (by kernel_rfl) (by kernel_rfl) (fun _ _ _ h => h) (by rfl) hSE ?_ ?_; rotate_left; (focus (intro w hSw; (try dsimp only at hSw); go_simp; (try with_reducible rfl))); simp only [Act.put, List.setIfInBounds_toArray, List.set_cons_zero, List.set_cons_succ])
        (refine WE_take (i := 8) (v := ?_) rfl (by kernel_rfl) (by decide) (by kernel_rfl) (by kernel_rfl) (fun _ _ _ h => h) (by rfl) hSE ?_ ?_; rotate_left; (focus (intro w hSw; (try dsimp only at hSw); go_simp; (try with_reducible rfl))); simp only [Act.put, List.setIfInBounds_toArray, List.set_cons_zero, List.set_cons_succ])
        (refine WE_take (i := 9) (v := ?_) rfl (by kernel_rfl) (by decide) (by kernel_rfl) (by kernel_rfl) (fun _ _ _ h => h) (by rfl) hSE ?_ ?_; rotate_left; (focus (intro w hSw; (try dsimp only at hSw); go_simp; (try with_reducible rfl))); simp only [Act.put, List.setIfInBounds_toArray, List.set_cons_zero, List.set_cons_succ])
        (refine WE_take (i := 10) (v := ?_) rfl (by kernel_rfl) (by decide) (by kernel_rfl) (by kernel_rfl) (fun _ _ _ h => h) (by rfl) hSE ?_ ?_; rotate_left; (focus (intro w hSw; (try dsimp only at hSw); go_simp; (try with_reducible rfl))); simp only [Act.put, List.setIfInBounds_toArray, List.set_cons_zero, List.set_cons_succ])
        (refine WE_one (i := 11) rfl (by decide) (by kernel_rfl) ?_; intro K hK)
        go_simp
        refine (byHourW_calls x y Wd).mono ?_
        rintro e wz ⟨rfl, nz, oz, rfl⟩
        have HK := hid ((unhid HK).grown nz oz)
        generalize grow (Wd.drewN nz) oz = w5 at *
        refine hK.out _ _ ((unhid HSF) _ (unhid HK)) ?_
        clear hSE hK K
        intro hSE
        (try simp only [Act.put, List.setIfInBounds_toArray, List.set_cons_zero, List.set_cons_succ])
        (refine WE_take (i := 12) (v := ?_) rfl (by kernel_rfl) (by decide) (by kernel_rfl) (by kernel_rfl) (fun _ _ _ h => h) (by rfl) hSE ?_ ?_; rotate_left; (focus (intro w hSw; (try dsimp only at hSw); go_simp; (try with_reducible rfl))); simp only [Act.put, List.setIfInBounds_toArray, List.set_cons_zero, List.set_cons_succ])
        (refine WE_last rfl (by kernel_rfl) (by kernel_rfl) (by kernel_rfl) ?_; intro K hK; go_simp; refine hK.out _ _ (NoPanic.normal ?_); clear hK K)
        clear hSE HSF
        go_wp2_with fail
        go_roundw
        case rel => exact ⟨h + 1, j, by go_num, rfl, unhid HN, unhid HK⟩
        case measure => have h1 := unhid HB3; simp [intOf]; omega
    · obtain rfl : i = j := by omega
      have hnn : ¬ (i : Int) < (i : Int) := by omega
      have hc := (unhid HCUT)
      have hMd := unhid HMID
      obtain ⟨q1, q2, q3, q4, q5⟩ := hMd
      clear hc
      have hbN : b - a ≤ N + 1 := (unhid HSZ).2.2.2.2.2
      by_cases g7 : i < m
      · by_cases g8 : m < mid + m - i
        · have c5 : (i : Int) < (m : Int) := by omega
          have c6 : (m : Int) < (mid : Int) + (m : Int) - (i : Int) := by omega
          go_wp2_with fail
          refine (rotate_calls (unhid HR) _ i m (mid + m - i) cap _ _ _ d wr (unhid HK) (unhid HSZ).2.1 (by omega) (by omega) (by omega) (unhid HSZ).1 rfl rfl (by omega)).mono ?_
          rintro e w5 ⟨rfl, d1, hrot, hk1⟩
          have HK := hid hk1
          clear hk1
          obtain ⟨hA, hB, hX⟩ := (unhid HIN).split (unhid HRL) (unhid HMID) (unhid HCUT) hrot (by have := (unhid HSZ).2.1; omega)
          have HA := hid hA
          have HB := hid hB
          have HX := hid hX
          have HROT := hid (⟨hrot.perm a b (by omega) (by omega) (by have := (unhid HSZ).2.1; omega), trivial⟩ : PermIn a b d _ ∧ True)
          have HSD := hid (show _ = d0.size from hrot.size.trans (unhid HSZ).2.1)
          clear hA hB hX hrot
          by_cases g5 : a < i
          · by_cases g6 : i < mid
            · have c1 : (a : Int) < (i : Int) := by omega
              have c2 : (i : Int) < (mid : Int) := by omega
              go_wp2_with fail
              refine ((unhid IH) a i mid _ _ _ _ _ (by omega) rfl rfl rfl (unhid HK) (unhid HSD) (by omega) (by omega) (by omega) (unhid HA)).mono ?_
              rintro e w6 ⟨rfl, d2, hm2, hk2⟩
              have HK := hid hk2
              have HM1 := hid hm2
              have HSD := hid (show d2.size = d0.size from hm2.perm.1.trans (unhid HSD))
              have HB := hid ((unhid HB).congr (fun t h1 h2 => hm2.perm.2.1 t (.inr h1)) (by omega) (by omega))
              clear hm2 hk2
              by_cases g3 : mid < mid + m - i
              · by_cases g4 : mid + m - i < b
                · have c3 : (mid : Int) < (mid : Int) + (m : Int) - (i : Int) := by omega
                  have c4 : (mid : Int) + (m : Int) - (i : Int) < (b : Int) := by omega
                  go_wp2_with fail
                  refine ((unhid IH) mid (mid + m - i) b _ _ _ _ _ (by omega) rfl (by omega) rfl (unhid HK) (unhid HSD) (by omega) (by omega) (by omega) (unhid HB)).mono ?_
                  rintro e w7 ⟨rfl, d3, hm3, hk3⟩
                  have HK := hid hk3
                  have HM2 := hid hm3
                  clear hm3 hk3
                  have HP := hid (show MgPost w0 blk off Rl a b d (.returned (.tuple #[])) _ from ⟨rfl, _, merged (unhid HROT).1 (unhid HX) (unhid HM1) (unhid HM2) (by omega) (by omega) (by have := (unhid HSZ).2.1; omega), unhid HK⟩)
                  go_wp2_with fail
                  go_end0
                  exact unhid HP
                · exfalso
                  omega
              · exfalso
                omega
            · exfalso
              omega
          · have c1 : ¬ (a : Int) < (i : Int) := by omega
            have HM1 := hid ((unhid HA).edge (by omega))
            by_cases g3 : mid < mid + m - i
            · by_cases g4 : mid + m - i < b
              · have c3 : (mid : Int) < (mid : Int) + (m : Int) - (i : Int) := by omega
                have c4 : (mid : Int) + (m : Int) - (i : Int) < (b : Int) := by omega
                go_wp2_with fail
                refine ((unhid IH) mid (mid + m - i) b _ _ _ _ _ (by omega) rfl (by omega) rfl (unhid HK) (unhid HSD) (by omega) (by omega) (by omega) (unhid HB)).mono ?_
                rintro e w7 ⟨rfl, d3, hm3, hk3⟩
                have HK := hid hk3
                have HM2 := hid hm3
                clear hm3 hk3
                have HP := hid (show MgPost w0 blk off Rl a b d (.returned (.tuple #[])) _ from ⟨rfl, _, merged (unhid HROT).1 (unhid HX) (unhid HM1) (unhid HM2) (by omega) (by omega) (by have := (unhid HSZ).2.1; omega), unhid HK⟩)
                go_wp2_with fail
                go_end0
                exact unhid HP
              · have c3 : (mid : Int) < (mid : Int) + (m : Int) - (i : Int) := by omega
                have c4 : ¬ (mid : Int) + (m : Int) - (i : Int) < (b : Int) := by omega
                have HM2 := hid ((unhid HB).edge (by omega))
                have HP := hid (show MgPost w0 blk off Rl a b d (.returned (.tuple #[])) _ from ⟨rfl, _, merged (unhid HROT).1 (unhid HX) (unhid HM1) (unhid HM2) (by omega) (by omega) (by have := (unhid HSZ).2.1; omega), unhid HK⟩)
                go_wp2_with fail
                go_end0
                exact unhid HP
            · exfalso
              omega
        · exfalso
          omega
      · have c5 : ¬ (i : Int) < (m : Int) := by omega
        have hrot : RotI d i m (mid + m - i) d := RotI.none d (by omega) (by omega) (by omega)
        obtain ⟨hA, hB, hX⟩ := (unhid HIN).split (unhid HRL) (unhid HMID) (unhid HCUT) hrot (by have := (unhid HSZ).2.1; omega)
        have HA := hid hA
        have HB := hid hB
        have HX := hid hX
        have HROT := hid (⟨hrot.perm a b (by omega) (by omega) (by have := (unhid HSZ).2.1; omega), trivial⟩ : PermIn a b d _ ∧ True)
        have HSD := hid (show _ = d0.size from hrot.size.trans (unhid HSZ).2.1)
        clear hA hB hX hrot
        by_cases g5 : a < i
        · by_cases g6 : i < mid
          · have c1 : (a : Int) < (i : Int) := by omega
            have c2 : (i : Int) < (mid : Int) := by omega
            go_wp2_with fail
            refine ((unhid IH) a i mid _ _ _ _ _ (by omega) rfl rfl rfl (unhid HK) (unhid HSD) (by omega) (by omega) (by omega) (unhid HA)).mono ?_
            rintro e w6 ⟨rfl, d2, hm2, hk2⟩
            have HK := hid hk2
            have HM1 := hid hm2
            have HSD := hid (show d2.size = d0.size from hm2.perm.1.trans (unhid HSD))
            have HB := hid ((unhid HB).congr (fun t h1 h2 => hm2.perm.2.1 t (.inr h1)) (by omega) (by omega))
            clear hm2 hk2
            by_cases g3 : mid < mid + m - i
            · by_cases g4 : mid + m - i < b
              · exfalso
                omega
              · exfalso
                omega
            · have c3 : ¬ (mid : Int) < (mid : Int) + (m : Int) - (i : Int) := by omega
              have HM2 := hid ((unhid HB).edge (by omega))
              have HP := hid (show MgPost w0 blk off Rl a b d (.returned (.tuple #[])) _ from ⟨rfl, _, merged (unhid HROT).1 (unhid HX) (unhid HM1) (unhid HM2) (by omega) (by omega) (by have := (unhid HSZ).2.1; omega), unhid HK⟩)
              go_wp2_with fail
              go_end0
              exact unhid HP
          · have c1 : (a : Int) < (i : Int) := by omega
            have c2 : ¬ (i : Int) < (mid : Int) := by omega
            have HM1 := hid ((unhid HA).edge (by omega))
            by_cases g3 : mid < mid + m - i
            · by_cases g4 : mid + m - i < b
              · exfalso
                omega
              · exfalso
                omega
            · have c3 : ¬ (mid : Int) < (mid : Int) + (m : Int) - (i : Int) := by omega
              have HM2 := hid ((unhid HB).edge (by omega))
              have HP := hid (show MgPost w0 blk off Rl a b d (.returned (.tuple #[])) _ from ⟨rfl, _, merged (unhid HROT).1 (unhid HX) (unhid HM1) (unhid HM2) (by omega) (by omega) (by have := (unhid HSZ).2.1; omega), unhid HK⟩)
              go_wp2_with fail
              go_end0
              exact unhid HP
        · exfalso
          omega

theorem symMerge_calls {w0 : World} {blk off : Nat} {d0 : Array Rc} (R : RowK rcC 14 w0 blk off d0) {Rl : Rc → Rc → Prop} (hRl : Strict Rl) (cap : Nat) (hsz : d0.size ≤ 1000000) : ∀ (N a m b : Nat) (ai mi bi : Int) (d : Array Rc) (w : World), b - a ≤ N → ai = (a : Int) → mi = (m : Int) → bi = (b : Int) → SWK rcC 14 w0 blk off d w → d.size = d0.size → a < m → m < b → b ≤ d0.size → MrgIn Rl hrI d a m b →
    Calls Try.prog 158 #[.slice (some ⟨blk, off, none⟩) d0.size cap, .int .i64 ai, .int .i64 mi, .int .i64 bi, .func (.func 116) #[] #[]] w fun e w' => MgPost w0 blk off Rl a b d e w' := by
  intro N
  induction N with
  | zero => intro a m b ai mi bi d w hN _ _ _ _ _ h1 h2; omega
  | succ N ih =>
    intro a m b ai mi bi d w hN hai hmi hbi h hs ham hmb hb hin
    subst hai hmi hbi
    by_cases h1 : m = a + 1
    · exact mg1_calls R hRl cap hsz N ih a m b d w hN h hs ham hmb hb hin h1
    · by_cases h2 : b = m + 1
      · exact mg2_calls R hRl cap hsz N ih a m b d w hN h hs ham hmb hb hin h1 h2
      · by_cases hmm : (a + b) / 2 < m
        · exact mg3_calls R hRl cap hsz N ih a m b d w hN h hs ham hmb hb hin h1 h2 _ rfl hmm
        · exact mg4_calls R hRl cap hsz N ih a m b d w hN h hs ham hmb hb hin h1 h2 _ rfl hmm

end Go.Proofs.Ytegghimjmbgghaa
