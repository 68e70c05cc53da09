/-
  The reference's insertion of a record.
-/
import Derived.Test.YtegghimjmbgghaaGreatBkRn
set_option linter.unusedSimpArgs false
set_option linter.unusedVariables false
namespace Go.Proofs.YtegghimjmbgghaaGreat
open Go.RowKit Go.Shelf

theorem recs_take (L : List Rc) {k : Nat} (hk : k ≤ L.length) : recs (L.take k) = (recs L).take (k * 14) := by
  have h := recs_append (L.take k) (L.drop k)
  rw [List.take_append_drop] at h
  have hl : (recs (L.take k)).length = k * 14 := by rw [recs_len, List.length_take]; omega
  conv => rhs; rw [h]
  exact (List.take_left' hl).symm
theorem recs_drop (L : List Rc) {k : Nat} (hk : k ≤ L.length) : recs (L.drop k) = (recs L).drop (k * 14) := by
  have h := recs_append (L.take k) (L.drop k)
  rw [List.take_append_drop] at h
  have hl : (recs (L.take k)).length = k * 14 := by rw [recs_len, List.length_take]; omega
  conv => rhs; rw [h]
  exact (List.drop_left' hl).symm
theorem recs_cell1 (L : List Rc) : ∀ u ∈ recs L, u.oneCell' = true := by
  intro u hu
  obtain ⟨r, -, h⟩ := List.mem_flatMap.1 hu
  simp only [rcC, rcA, List.mem_cons, List.not_mem_nil, or_false] at h
  rcases h with rfl | rfl | rfl | rfl | rfl | rfl | rfl | rfl | rfl | rfl | rfl | rfl | rfl | rfl <;> rfl

/-- The reference's book: its records; the second field whatever it is. -/
structure RB0 (w : World) (B : Nat) (L : List Rc) (A : Option Addr) (c : Nat) (A2 : Option Addr) (n2 c2 : Nat) : Prop where
  b : w.heap[B]? = some (.cells #[.slice A L.length c, .slice A2 n2 c2] 36 (0, 0))
  l : Rd w A (recs L)
  c : L.length ≤ c
theorem RB0.cell0 {w : World} {B : Nat} {L : List Rc} {A A2 : Option Addr} {c n2 c2 : Nat} (h : RB0 w B L A c A2 n2 c2) : w.cell? ⟨B, 0, none⟩ = some (.slice A L.length c) := cell_of_row _ B 0 _ _ _ h.b
theorem RB0.lt {w : World} {B : Nat} {L : List Rc} {A A2 : Option Addr} {c n2 c2 : Nat} (h : RB0 w B L A c A2 n2 c2) : B < w.heap.size := (Array.getElem?_eq_some_iff.1 h.b).1
theorem RB0.below {w w' : World} {B : Nat} {L : List Rc} {A A2 : Option Addr} {c n2 c2 : Nat} (h : RB0 w B L A c A2 n2 c2) (hb : Below w.heap.size w w') : RB0 w' B L A c A2 n2 c2 :=
  ⟨(hb.block B h.lt).trans h.b, h.l.below hb, h.c⟩
/-- What reads as records does not lie where there are no numbers. -/
theorem rd_far {w w' : World} {B : Nat} {A : Option Addr} {L : List Rc} {cs : Array Value} {ty : TypeId} (hb : w.heap[B]? = some (.cells cs ty (0, 0))) (hn : ∀ (k : Nat) (n : Int), cs[k]? ≠ some (.int .i64 n)) (h : Rd w A (recs L)) (hg : w.grownBy w' (some B)) : Rd w' A (recs L) := fun hne => by
  obtain ⟨b, off, rfl, hlt, hc⟩ := h hne
  have hbB : b ≠ B := by
    rintro rfl
    cases L with
    | nil => exact hne rfl
    | cons x L =>
      have h0 := hc 0 (.int .i64 x.tab) rfl
      rw [Nat.add_zero, cell_of_row _ b off _ _ _ hb] at h0
      exact hn _ _ h0
  exact ⟨b, off, rfl, Nat.lt_of_lt_of_le hlt hg.size, fun j u hu => by
    rw [World.cell?_of_block (hg.block b hlt (fun e => hbB (Option.some.inj e)))]
    exact hc j u hu⟩
theorem two_slices (A A2 : Option Addr) (a c n2 c2 : Nat) : ∀ (k : Nat) (n : Int), (#[Value.slice A a c, .slice A2 n2 c2] : Array Value)[k]? ≠ some (.int .i64 n)
  | 0, _ => by simp
  | 1, _ => by simp
  | k + 2, _ => by simp
theorem RB0.setList {w : World} {B : Nat} {L L' : List Rc} {A A2 : Option Addr} {c n2 c2 : Nat} (h : RB0 w B L A c A2 n2 c2) {A' : Option Addr} {c' n' : Nat} (hn : n' = L'.length) (hr : Rd w A' (recs L')) (hc : L'.length ≤ c') :
    RB0 (w.setCell ⟨B, 0, none⟩ (.slice A' n' c')) B L' A' c' A2 n2 c2 ∧ w.grownBy (w.setCell ⟨B, 0, none⟩ (.slice A' n' c')) (some B) := by
  subst hn
  have hg := setCell_grown w h.b (i := 0) (.slice A' L'.length c')
  exact ⟨⟨by have := heap_setCell_same _ B 0 _ _ (.slice A' L'.length c') h.b; simpa using this, rd_far h.b (two_slices _ _ _ _ _ _) hr hg, hc⟩, hg⟩

def InsPost (w : World) (B : Nat) (L : List Rc) (r : Rc) (A2 : Option Addr) (n2 c2 : Nat) (e : Ending) (w' : World) : Prop :=
  e = .returned (.bool (!decide (r ∈ L))) ∧ w.grownBy w' (some B) ∧ ∃ A c, RB0 w' B (addR r L) A c A2 n2 c2

set_option maxHeartbeats 8000000 in
set_option maxRecDepth 100000 in
theorem insert_calls (r : Rc) {B : Nat} {L : List Rc} {A A2 : Option Addr} {c n2 c2 : Nat} (w : World) (h : RB0 w B L A c A2 n2 c2) (hA : Asc L) (hL : L.length ≤ 1000000) :
    Calls Tryz.prog 90 #[.pointer (some ⟨B, 0, none⟩), rcV r] w fun e w' => InsPost w B L r A2 n2 c2 e w' := by
  obtain ⟨i0, hi, hz0, hz1, hz2⟩ := info_parts info_rec
  have hb0 := below_alloc w (.cells (rcA r) 82)
  have HR := hid (RcAt.new w r)
  have HB := hid hb0
  have HK := hid (h.below hb0)
  have HA := hid hA
  have HLL := hid hL
  clear h hA hL hb0
  show Calls Tryz.prog 90 #[.pointer (some ⟨B, 0, none⟩), .agg #[.int .i64 r.tab, .int .i64 r.num, .int .i64 r.hour, .int .i64 r.sign, .int .i64 r.fld, .int .i64 r.val, .int .i64 r.s0, .int .i64 r.s1, .int .i64 r.s2, .int .i64 r.s3, .int .i64 r.s4, .int .i64 r.s5, .int .i64 r.s6, .int .i64 r.s7]] w _
  go_enter Tryz.func90, Tryz.ntmps90
  go_upto_region 1 with (fail)
  change Code.wp _ _ _ _ (w.alloc (.cells (rcA r) 82))
  generalize w.alloc (.cells (rcA r) 82) = W at *
  obtain ⟨X, hX⟩ : ∃ X, X = w.heap.size := ⟨_, rfl⟩
  rw [← hX] at HR ⊢
  have HXE := hid hX
  clear hX
  obtain ⟨d0, d1, d2, d3, d4, d5, d6, d7, d8, d9, d10, d11, d12, d13⟩ := (show _ ∧ _ from (unhid HR).after)
  have k0 : ∀ p : After W, p.w.cell? ⟨B, 0, none⟩ = some (.slice A L.length c) := After.cell (unhid HK).lt (unhid HK).cell0
  have HFC := hid (fun p : After W => find_calls r A L c p.w (((unhid HK).l).below p.below) (unhid HA) (unhid HLL))
  obtain ⟨k, hk⟩ : ∃ k, fnd r L = k := ⟨_, rfl⟩
  have HKL := hid (show k ≤ L.length from hk ▸ fnd_le r L)
  have HKE := hid hk
  rw [hk] at HFC
  clear hk
  by_cases hm : r ∈ L
  · rw [decide_eq_true hm] at HFC
    have HM := hid hm
    clear hm
    (refine wp_region_below (by kernel_rfl) (by kernel_rfl) ?_; (repeat (go_big_quiet_step (first | (go_at_call 115; exact Calls.after_of ((unhid HFC) _))))); refine wpQuiet_nil ?_; intro wq hw'; obtain ⟨⟨wq2, hbq⟩, hw''⟩ := hw'; dsimp only at hw''; subst hw'')
    have HK := hid ((unhid HK).below hbq)
    have HB := hid ((unhid HB).trans (hbq.mono (unhid HB).size))
    clear hbq d0 d1 d2 d3 d4 d5 d6 d7 d8 d9 d10 d11 d12 d13 k0 HFC
    have HP := hid (show InsPost w B L r A2 n2 c2 (.returned (.bool false)) wq from ⟨by rw [decide_eq_true (unhid HM)]; rfl, grown_of_below (unhid HB) _, A, c, by
      unfold addR
      rw [if_pos (unhid HM)]
      exact unhid HK⟩)
    go_wp2_with fail
    go_ret
    exact unhid HP
  · rw [decide_eq_false hm] at HFC
    have HM := hid hm
    clear hm
    (refine wp_region_below (by kernel_rfl) (by kernel_rfl) ?_; (repeat (go_big_quiet_step (first | (go_at_call 115; exact Calls.after_of ((unhid HFC) _))))); refine wpQuiet_nil ?_; intro wq hw'; obtain ⟨⟨wq2, hbq⟩, hw''⟩ := hw'; dsimp only at hw''; subst hw'')
    have HR := hid ((unhid HR).below hbq (unhid HR).lt)
    have HK := hid ((unhid HK).below hbq)
    have HB := hid ((unhid HB).trans (hbq.mono (unhid HB).size))
    clear hbq d0 d1 d2 d3 d4 d5 d6 d7 d8 d9 d10 d11 d12 d13 k0 HFC
    generalize wq = W2 at *
    go_upto_region 3 with (fail)
    have HSF := hid (show ∀ w', Below W2.heap.size W2 w' → (w'.cell? ⟨B, 0, none⟩ = some (.slice A L.length c) ∧ (w'.cell? ⟨X, 0, none⟩ = some (.int .i64 r.tab) ∧ w'.cell? ⟨X, 1, none⟩ = some (.int .i64 r.num) ∧ w'.cell? ⟨X, 2, none⟩ = some (.int .i64 r.hour) ∧ w'.cell? ⟨X, 3, none⟩ = some (.int .i64 r.sign) ∧ w'.cell? ⟨X, 4, none⟩ = some (.int .i64 r.fld) ∧ w'.cell? ⟨X, 5, none⟩ = some (.int .i64 r.val) ∧ w'.cell? ⟨X, 6, none⟩ = some (.int .i64 r.s0) ∧ w'.cell? ⟨X, 7, none⟩ = some (.int .i64 r.s1) ∧ w'.cell? ⟨X, 8, none⟩ = some (.int .i64 r.s2) ∧ w'.cell? ⟨X, 9, none⟩ = some (.int .i64 r.s3) ∧ w'.cell? ⟨X, 10, none⟩ = some (.int .i64 r.s4) ∧ w'.cell? ⟨X, 11, none⟩ = some (.int .i64 r.s5) ∧ w'.cell? ⟨X, 12, none⟩ = some (.int .i64 r.s6) ∧ w'.cell? ⟨X, 13, none⟩ = some (.int .i64 r.s7))) from fun w' hb => by
      obtain ⟨a0, a1, a2, a3, a4, a5⟩ := ((unhid HR).below hb (unhid HR).lt).cells
      obtain ⟨a6, a7, a8, a9, a10, a11, a12, a13⟩ := ((unhid HR).below hb (unhid HR).lt).seen8
      exact ⟨((unhid HK).below hb).cell0, ⟨a0, a1, a2, a3, a4, a5, a6, a7, a8, a9, a10, a11, a12, a13⟩⟩)
    have hkl : (k : Int) ≤ (L.length : Int) := by have := unhid HKL; omega
    have hkc : (k : Int) ≤ (c : Int) := by have := unhid HKL; have := (unhid HK).c; omega
    have hk0 : (0 : Int) ≤ (k : Int) := by omega
    refine wp_region_noPanic ?_
    refine wp_region_E (S := fun w' => (w'.cell? ⟨B, 0, none⟩ = some (.slice A L.length c) ∧ (w'.cell? ⟨X, 0, none⟩ = some (.int .i64 r.tab) ∧ w'.cell? ⟨X, 1, none⟩ = some (.int .i64 r.num) ∧ w'.cell? ⟨X, 2, none⟩ = some (.int .i64 r.hour) ∧ w'.cell? ⟨X, 3, none⟩ = some (.int .i64 r.sign) ∧ w'.cell? ⟨X, 4, none⟩ = some (.int .i64 r.fld) ∧ w'.cell? ⟨X, 5, none⟩ = some (.int .i64 r.val) ∧ w'.cell? ⟨X, 6, none⟩ = some (.int .i64 r.s0) ∧ w'.cell? ⟨X, 7, none⟩ = some (.int .i64 r.s1) ∧ w'.cell? ⟨X, 8, none⟩ = some (.int .i64 r.s2) ∧ w'.cell? ⟨X, 9, none⟩ = some (.int .i64 r.s3) ∧ w'.cell? ⟨X, 10, none⟩ = some (.int .i64 r.s4) ∧ w'.cell? ⟨X, 11, none⟩ = some (.int .i64 r.s5) ∧ w'.cell? ⟨X, 12, none⟩ = some (.int .i64 r.s6) ∧ w'.cell? ⟨X, 13, none⟩ = some (.int .i64 r.s7)))) 20 21 rfl (by kernel_rfl) (by kernel_rfl) ((unhid HSF) _ (Below.drew (Below.refl _ _))) ?_
    intro hSE
    have HBe := hid (Below.drew (Below.refl W2.heap.size W2))
    generalize W2.drew = Wd at *
    (refine WE_take (i := 0) (v := ?_) rfl (by kernel_rfl) (by decide) (by kernel_rfl) (by kernel_rfl) (fun _ _ _ h => h) (by rfl) hSE ?_ ?_; rotate_left; (focus (intro w hSw; (try dsimp only at hSw); go_simp; (try with_reducible rfl))); simp only [Act.put, List.setIfInBounds_toArray, List.set_cons_zero, List.set_cons_succ])
    (refine WE_take (i := 1) (v := ?_) rfl (by kernel_rfl) (by decide) (by kernel_rfl) (by kernel_rfl) (fun _ _ _ h => h) (by rfl) hSE ?_ ?_; rotate_left; (focus (intro w hSw; (try dsimp only at hSw); go_simp; (try with_reducible rfl))); simp only [Act.put, List.setIfInBounds_toArray, List.set_cons_zero, List.set_cons_succ])
    (refine WE_take (i := 2) (v := ?_) rfl (by kernel_rfl) (by decide) (by kernel_rfl) (by kernel_rfl) (fun _ _ _ h => h) (by rfl) hSE ?_ ?_; rotate_left; (focus (intro w hSw; (try dsimp only at hSw); go_simp; (try with_reducible rfl))); simp only [Act.put, List.setIfInBounds_toArray, List.set_cons_zero, List.set_cons_succ])
    (refine WE_take (i := 3) (v := ?_) rfl (by kernel_rfl) (by decide) (by kernel_rfl) (by kernel_rfl) (fun _ _ _ h => h) (by rfl) hSE ?_ ?_; rotate_left; (focus (intro w hSw; (try dsimp only at hSw); go_simp; (try with_reducible rfl))); simp only [Act.put, List.setIfInBounds_toArray, List.set_cons_zero, List.set_cons_succ])
    (refine WE_take (i := 4) (v := ?_) rfl (by kernel_rfl) (by decide) (by kernel_rfl) (by kernel_rfl) (fun _ _ _ h => h) (by rfl) hSE ?_ ?_; rotate_left; (focus (intro w hSw; (try dsimp only at hSw); go_simp; (try with_reducible rfl))); simp only [Act.put, List.setIfInBounds_toArray, List.set_cons_zero, List.set_cons_succ])
    (refine WE_take (i := 5) (v := ?_) rfl (by kernel_rfl) (by decide) (by kernel_rfl) (by kernel_rfl) (fun _ _ _ h => h) (by rfl) hSE ?_ ?_; rotate_left; (focus (intro w hSw; (try dsimp only at hSw); go_simp; (try with_reducible rfl))); simp only [Act.put, List.setIfInBounds_toArray, List.set_cons_zero, List.set_cons_succ])
    (refine WE_take (i := 6) (v := ?_) rfl (by kernel_rfl) (by decide) (by kernel_rfl) (by kernel_rfl) (fun _ _ _ h => h) (by rfl) hSE ?_ ?_; rotate_left; (focus (intro w hSw; (try dsimp only at hSw); go_simp; (try with_reducible rfl))); simp only [Act.put, List.setIfInBounds_toArray, List.set_cons_zero, List.set_cons_succ])
    (refine WE_take (i := 7) (v := ?_) rfl (by kernel_rfl) (by decide) (by kernel_rfl) (by kernel_rfl) (fun _ _ _ h => h) (by rfl) hSE ?_ ?_; rotate_left; (focus (intro w hSw; (try dsimp only at hSw); go_simp; (try with_reducible rfl))); simp only [Act.put, List.setIfInBounds_toArray, List.set_cons_zero, List.set_cons_succ])
    (refine WE_take (i := 8) (v := ?_) rfl (by kernel_rfl) (by decide) (by kernel_rfl) (by kernel_rfl) (fun _ _ _ h => h) (by rfl) hSE ?_ ?_; rotate_left; (focus (intro w hSw; (try dsimp only at hSw); go_simp; (try with_reducible rfl))); simp only [Act.put, List.setIfInBounds_toArray, List.set_cons_zero, List.set_cons_succ])
    (refine WE_take (i := 10) (v := ?_) rfl (by kernel_rfl) (by decide) (by kernel_rfl) (by kernel_rfl) (fun _ _ _ h => h) (by rfl) hSE ?_ ?_; rotate_left; (focus (intro w hSw; (try dsimp only at hSw); go_simp; (try with_reducible rfl))); simp only [Act.put, List.setIfInBounds_toArray, List.set_cons_zero, List.set_cons_succ])
    (refine WE_take (i := 11) (v := ?_) rfl (by kernel_rfl) (by decide) (by kernel_rfl) (by kernel_rfl) (fun _ _ _ h => h) (by rfl) hSE ?_ ?_; rotate_left; (focus (intro w hSw; (try dsimp only at hSw); go_simp; (try with_reducible rfl))); simp only [Act.put, List.setIfInBounds_toArray, List.set_cons_zero, List.set_cons_succ])
    (refine WE_take (i := 12) (v := ?_) rfl (by kernel_rfl) (by decide) (by kernel_rfl) (by kernel_rfl) (fun _ _ _ h => h) (by rfl) hSE ?_ ?_; rotate_left; (focus (intro w hSw; (try dsimp only at hSw); go_simp; (try with_reducible rfl))); simp only [Act.put, List.setIfInBounds_toArray, List.set_cons_zero, List.set_cons_succ])
    (refine WE_take (i := 13) (v := ?_) rfl (by kernel_rfl) (by decide) (by kernel_rfl) (by kernel_rfl) (fun _ _ _ h => h) (by rfl) hSE ?_ ?_; rotate_left; (focus (intro w hSw; (try dsimp only at hSw); go_simp; (try with_reducible rfl))); simp only [Act.put, List.setIfInBounds_toArray, List.set_cons_zero, List.set_cons_succ])
    (refine WE_take (i := 14) (v := ?_) rfl (by kernel_rfl) (by decide) (by kernel_rfl) (by kernel_rfl) (fun _ _ _ h => h) (by rfl) hSE ?_ ?_; rotate_left; (focus (intro w hSw; (try dsimp only at hSw); go_simp; (try with_reducible rfl))); simp only [Act.put, List.setIfInBounds_toArray, List.set_cons_zero, List.set_cons_succ])
    (refine WE_take (i := 15) (v := ?_) rfl (by kernel_rfl) (by decide) (by kernel_rfl) (by kernel_rfl) (fun _ _ _ h => h) (by rfl) hSE ?_ ?_; rotate_left; (focus (intro w hSw; (try dsimp only at hSw); go_simp; (try with_reducible rfl))); simp only [Act.put, List.setIfInBounds_toArray, List.set_cons_zero, List.set_cons_succ])
    (refine WE_one (i := 9) rfl (by decide) (by kernel_rfl) ?_; intro K hK)
    go_simp
    change K _ (Wd.alloc (.cells (rcA r) 82))
    have HNR := hid (show Rd (Wd.alloc (.cells (rcA r) 82)) (some ⟨Wd.heap.size, 0, none⟩) (rcC r) from fun _ => ⟨Wd.heap.size, 0, rfl, by simp, fun j u hu => by
      rw [Nat.zero_add, World.cell?_alloc_new]
      rw [← Array.getElem?_toList]
      exact hu⟩)
    obtain ⟨Bn, hBn⟩ : ∃ Bn, Bn = Wd.heap.size := ⟨_, rfl⟩
    rw [← hBn] at HNR ⊢
    have HBe := hid ((unhid HBe).alloc (unhid HBe).size (.cells (rcA r) 82))
    refine hK.out _ _ ((unhid HSF) _ (unhid HBe)) ?_
    clear hSE hK K hBn
    intro hSE
    (try simp only [Act.put, List.setIfInBounds_toArray, List.set_cons_zero, List.set_cons_succ])
    generalize Wd.alloc (.cells (rcA r) 82) = Wa at *
    have HCUT := hid (((unhid HK).l.below (unhid HBe)).cut k 14 c (fun h => by rw [recs_len] at h; have := (unhid HK).c; omega))
    have HDL := hid (show ((recs L).drop (k * 14)).length = (L.length - k) * 14 from by rw [List.length_drop, recs_len]; omega)
    have HTL := hid (show ((recs L).take (k * 14)).length = k * 14 from by rw [List.length_take, recs_len]; have := unhid HKL; omega)
    have HDO := hid (show ∀ u ∈ (recs L).drop (k * 14), u.oneCell' = true from fun u hu => recs_cell1 L u (List.mem_of_mem_drop hu))
    have HYO := hid (show ∀ u ∈ rcC r ++ (recs L).drop (k * 14), u.oneCell' = true from fun u hu => by
      rcases List.mem_append.1 hu with h | h
      · exact recs_cell1 [r] u (by rw [recs_one]; exact h)
      · exact unhid HDO u h)
    have HYL := hid (show (rcC r ++ (recs L).drop (k * 14)).length = (1 + (L.length - k)) * 14 from by
      rw [List.length_append, unhid HDL]
      show 14 + _ = _
      omega)
    have HNK := hid (show A = none → k = 0 from fun h => by
      rcases Nat.eq_zero_or_pos k with h0 | h0
      · exact h0
      · obtain ⟨b, off, e, -⟩ := (unhid HK).l (recs_ne (k := 0) (L := L) (by have := unhid HKL; omega))
        rw [h] at e; cases e)
    have HB1 := hid (show 1 + (L.length - k) ≤ maxLen ∧ (1 + (L.length - k)) * 112 ≤ 140737488355328 from by have := unhid HLL; unfold maxLen; omega)
    have HB2 := hid (show k + (1 + (L.length - k)) ≤ maxLen ∧ (k + (1 + (L.length - k))) * 112 ≤ 140737488355328 ∧ k ≤ maxLen from by have := unhid HLL; have := unhid HKL; unfold maxLen; omega)
    (refine WE_one (i := 16) rfl (by decide) (by kernel_rfl) ?_; intro K hK)
    refine step_app (by rfl) _ _ _ (by rfl) 82 i0 _ 14 112 Tryz.underlying22 hi hz0 hz1 hz2 rfl (by omega) (some ⟨Bn, 0, none⟩) 1 1 (rcC r) (by rfl) (unhid HNR) (by rfl) (fun h => by cases h) (Nat.le_refl _) (by unfold maxLen; omega) _ (L.length - k) (c - k) ((recs L).drop (k * 14)) (by rfl) (unhid HCUT) (unhid HDL) (unhid HDO) (by omega) (unhid HB1).1 (unhid HB1).2 ?_
    intro A3 c3 w3 hr3 hle3 hcm3 hn3 hg3
    have HR3 := hid hr3
    have HBe := hid ((unhid HBe).trans ((below_of_grown hg3).mono (unhid HBe).size))
    clear hr3 hg3 hle3 hcm3 hn3
    refine hK.out _ _ ((unhid HSF) _ (unhid HBe)) ?_
    clear hSE hK K
    intro hSE
    (try simp only [Act.put, List.setIfInBounds_toArray, List.set_cons_zero, List.set_cons_succ])
    have HRT := hid (((unhid HK).l.below (unhid HBe)).take (k * 14))
    (refine WE_one (i := 17) rfl (by decide) (by kernel_rfl) ?_; intro K hK)
    refine step_app (by rfl) _ _ _ (by rfl) 82 i0 _ 14 112 Tryz.underlying22 hi hz0 hz1 hz2 rfl (by omega) A k k ((recs L).take (k * 14)) (by rfl) (unhid HRT) (unhid HTL) (unhid HNK) (Nat.le_refl _) (unhid HB2).2.2 A3 (1 + (L.length - k)) c3 (rcC r ++ (recs L).drop (k * 14)) (by rfl) (unhid HR3) (unhid HYL) (unhid HYO) (.inr (by omega)) (unhid HB2).1 (unhid HB2).2.1 ?_
    intro A4 c4 w4 hr4 hle4 hcm4 hn4 hg4
    have HR4 := hid hr4
    have HL4 := hid hle4
    have HBe := hid ((unhid HBe).trans ((below_of_grown hg4).mono (unhid HBe).size))
    clear hr4 hg4 hle4 hcm4 hn4
    refine hK.out _ _ ((unhid HSF) _ (unhid HBe)) ?_
    clear hSE hK K
    intro hSE
    (try simp only [Act.put, List.setIfInBounds_toArray, List.set_cons_zero, List.set_cons_succ])
    have fz : w4.frozen? ⟨B, 0, none⟩ = false := frozen_of_row _ _ _ _ _ ((unhid HK).below (unhid HBe)).b
    (refine WE_take (i := 18) (v := ?_) rfl (by kernel_rfl) (by decide) (by kernel_rfl) (by kernel_rfl) (fun _ _ _ h => h) (by rfl) hSE ?_ ?_; rotate_left; (focus (intro w hSw; (try dsimp only at hSw); go_simp; (try with_reducible rfl))); simp only [Act.put, List.setIfInBounds_toArray, List.set_cons_zero, List.set_cons_succ])
    (refine WE_take (i := 19) (v := ?_) rfl (by kernel_rfl) (by decide) (by kernel_rfl) (by kernel_rfl) (fun _ _ _ h => h) (by rfl) hSE ?_ ?_; rotate_left; (focus (intro w hSw; (try dsimp only at hSw); go_simp; (try with_reducible rfl))); simp only [Act.put, List.setIfInBounds_toArray, List.set_cons_zero, List.set_cons_succ])
    (refine WE_last rfl (by kernel_rfl) (by kernel_rfl) (by kernel_rfl) ?_; intro K hK; go_simp; refine hK.out _ _ (NoPanic.normal ?_); clear hK K)
    have HIE := hid (show addR r L = L.take k ++ r :: L.drop k from by unfold addR ins; rw [if_neg (unhid HM), unhid HKE])
    have hset := ((unhid HK).below (unhid HBe)).setList (L' := L.take k ++ r :: L.drop k) (A' := A4) (c' := c4) (n' := k + (1 + (L.length - k))) (by
      have := unhid HKL
      rw [List.length_append, List.length_cons, List.length_take, List.length_drop]; omega) (by
      have e : recs (L.take k ++ r :: L.drop k) = (recs L).take (k * 14) ++ (rcC r ++ (recs L).drop (k * 14)) := by
        rw [recs_append, ← recs_take L (unhid HKL), ← recs_drop L (unhid HKL)]; rfl
      rw [e]; exact unhid HR4) (by
      have h1 := unhid HKL
      have h2 := unhid HL4
      rw [List.length_append, List.length_cons, List.length_take, List.length_drop]; omega)
    have HP := hid (show InsPost w B L r A2 n2 c2 (.returned (.bool true)) (w4.setCell ⟨B, 0, none⟩ (.slice A4 (k + (1 + (L.length - k))) c4)) from
      ⟨by rw [decide_eq_false (unhid HM)]; rfl, grown_then ((unhid HB).trans ((unhid HBe).mono (unhid HB).size)) hset.2, A4, c4, by rw [unhid HIE]; exact hset.1⟩)
    clear hset hSE fz
    generalize w4.setCell ⟨B, 0, none⟩ (.slice A4 (k + (1 + (L.length - k))) c4) = w5 at *
    go_wp2_with fail
    all_goals
      go_ret
      exact unhid HP

end Go.Proofs.YtegghimjmbgghaaGreat
