/-
  The law FaceTexts.
-/
import Derived.Test.YtmagidoodlkeoaaGreatDoorFcFo
import Derived.Test.YtmagidoodlkeoaaGreatDoorFcSm
set_option linter.unusedSimpArgs false
set_option linter.unusedVariables false
namespace Go.Proofs.YtmagidoodlkeoaaGreatDoor
open Go.RowKit

theorem ItsOk.row {w : World} {A : Option Addr} {l : List It} {B : Nat} {a b c d : Value} {t : TypeId} (h : ItsOk w A l) (hB : w.heap[B]? = some (.cells #[a, b, c, d] t (0, 0))) (us : Array Value) : ItsOk (w.setRow B us) A l := by
  refine ⟨h.n, fun hx => ?_, h.txt⟩
  obtain ⟨bb, off, rfl, hb, hc⟩ := h.rd hx
  refine ⟨bb, off, rfl, by simpa using hb, fun j u hu => ?_⟩
  have hne : bb ≠ B := by
    rintro rfl
    have hl : 0 < l.length := by
      cases l with
      | nil => exact absurd rfl hx
      | cons => simp
    have h6 := (its_cells hc hl).2.2.2.2.2.2
    rw [cell_of_row _ _ _ _ _ _ hB] at h6
    simp at h6
  rw [cell_setRow_other _ _ _ _ hne]
  exact hc j u hu

theorem On.row {w0 w : World} (h0 : Gl w0) (h : On w0 w) {B : Nat} (hB : w0.heap.size ≤ B) (us : Array Value) : On w0 (w.setRow B us) := ⟨below_setRow h.bel hB us, h0.below (below_setRow h.bel hB us)⟩
theorem same_zero (A : Option Addr) (c : Nat) (w : World) : Calls Tryz.prog 23 #[.agg #[.int .i64 0, .int .i64 0, .int .i64 0, .slice A 0 c], .agg #[.int .i64 0, .int .i64 0, .int .i64 0, .slice none 0 0]] w fun e w' => e = .returned (.bool true) ∧ Below w.heap.size w w' := by
  have h := same_calls ⟨0, 0, 0, []⟩ ⟨0, 0, 0, []⟩ A none c 0 w (ItsOk.nil _ _) (ItsOk.nil _ _)
  rw [eqF_self] at h
  exact h
theorem parse_ok {f : Fc} (hf : fcB f = true) (w : World) (hg : Gl w) :
    Calls Tryz.prog 21 #[.string (SB (fmtF f))] w fun e w' => Below w.heap.size w w' ∧ ∃ (A : Option Addr) (c : Nat), e = .returned (.tuple #[.agg #[.int .i64 f.shape, .int .i64 f.size, .int .i64 f.height, .slice A f.items.length c], .int .i64 0]) ∧ ItsOk w' A f.items := by
  refine (parse_calls (fmtF f) w hg).mono ?_
  rintro e w' ⟨hb, h⟩
  rw [parseP_some.2 ⟨hf, rfl⟩] at h
  exact ⟨hb, h⟩
/-- Any text is a face's, of which nothing more is known than that it is not this one, or none. -/
theorem parse_other {f : Fc} {s : List UInt8} (hs : s ≠ fmtF f) (w : World) (hg : Gl w) :
    Calls Tryz.prog 21 #[.string (SB s)] w fun e w' => Below w.heap.size w w' ∧ ∃ (g : Fc) (A : Option Addr) (c : Nat) (er : Int), e = .returned (.tuple #[.agg #[.int .i64 g.shape, .int .i64 g.size, .int .i64 g.height, .slice A g.items.length c], .int .i64 er]) ∧ ItsOk w' A g.items ∧ (er = 4 ∧ g = ⟨0, 0, 0, []⟩ ∨ er = 0 ∧ f ≠ g) := by
  refine (parse_calls s w hg).mono ?_
  rintro e w' ⟨hb, h⟩
  refine ⟨hb, ?_⟩
  cases hp : parseP s with
  | none =>
    rw [hp] at h
    exact ⟨⟨0, 0, 0, []⟩, none, 0, 4, h, ItsOk.nil _ _, .inl ⟨rfl, rfl⟩⟩
  | some g =>
    rw [hp] at h
    obtain ⟨A, c, he, hi⟩ := h
    exact ⟨g, A, c, 0, he, hi, .inr ⟨rfl, fun e => hs (by rw [e]; exact (parseP_some.1 hp).2.symm)⟩⟩
theorem join_pos (a b : List UInt8) (ws : List (List UInt8)) : 0 < (Lib.join (a :: b :: ws) [32]).length := by
  rw [Lib.join_cons]
  simp [Lib.joinTail]
  omega
theorem fmtF_pos (f : Fc) : 0 < (fmtF f).length := by
  have h : 0 < (Lib.join (headF f) [32]).length := join_pos _ _ _
  unfold fmtF
  split
  · exact h
  · rw [List.length_append]; omega
theorem SB_hole (s : List UInt8) (i : Nat) : (SB s).extract 0 i ++ (SB s).extract (i + 1) s.length = SB (s.take i ++ s.drop (i + 1)) := by
  apply ByteArray.ext
  apply Array.toList_inj.1
  simp [SB, ByteArray.data_append, ByteArray.data_extract, List.extract_eq_take_drop]
  rw [List.take_of_length_le (by simp)]

set_option maxHeartbeats 4000000 in
set_option maxRecDepth 100000 in
theorem texts_calls (f : Fc) (A : Option Addr) (c : Nat) (a : Int) (w : World) (hg : Gl w) (hit : ItsOk w A f.items) (ha : 0 ≤ a ∧ a ≤ 65535) :
    Calls Tryz.prog 7 #[.agg #[.int .i64 f.shape, .int .i64 f.size, .int .i64 f.height, .slice A f.items.length c], .int .u16 a] w fun e w' => e = .returned (.bool true) ∧ Below w.heap.size w w' := by
  have zsb : ∀ l : List UInt8, (SB l).size = l.length := fun _ => rfl
  have HF := hid (FaceAt.new w c hit)
  have HO := hid ((On.start hg).lay (.cells #[.int .i64 f.shape, .int .i64 f.size, .int .i64 f.height, .slice A f.items.length c] 25))
  obtain ⟨a0, a1⟩ := ha
  have HG0 := hid hg
  clear hg hit
  go_enter Tryz.func7, Tryz.ntmps7
  go_wp2_with fail
  generalize w.alloc (.cells #[.int .i64 f.shape, .int .i64 f.size, .int .i64 f.height, .slice A f.items.length c] 25) = W at *
  refine (long_calls f A c W (unhid HF).ok).mono ?_
  rintro e w1 ⟨rfl, hw1⟩
  have hb : Below W.heap.size W w1 := hw1 ▸ below_alloc _ _
  have HF1 := hid ((unhid HF).below hb)
  have HO1 := hid ((unhid HO).next hb)
  clear hw1 hb HF HO
  obtain ⟨c0, c1, c2, c3⟩ := (unhid HF1).cells
  cases hl : longB f with
  | true =>
    go_wp2_with fail
    refine (unhid HO1).first.mono ?_
    rintro e w2 ⟨rfl, hb2⟩
    have HB2 := hid hb2
    clear hb2
    go_wp2_with fail
    go_ret
    exact ⟨rfl, unhid HB2⟩
  | false =>
    go_wp2_with fail
    refine (rvalid_calls f A c w1 (unhid HF1).ok).mono ?_
    rintro e w2 ⟨rfl, hb⟩
    have HF2 := hid ((unhid HF1).below hb)
    have HO2 := hid ((unhid HO1).next hb)
    clear hb HF1 HO1 c0 c1 c2 c3
    obtain ⟨c0, c1, c2, c3⟩ := (unhid HF2).cells
    cases hf : fcB f with
    | false =>
      go_wp2_with fail
      refine (unhid HO2).first.mono ?_
      rintro e w3 ⟨rfl, hb2⟩
      have HB2 := hid hb2
      clear hb2
      go_wp2_with fail
      go_ret
      exact ⟨rfl, unhid HB2⟩
    | true =>
      have HFF := hid hf
      have HE := hid (pformat_calls f A c w2 (unhid HO2).gl (unhid HF2).ok)
      rw [fmtR_yes hf] at HE
      clear hf
      go_wp2_with fail
      refine (unhid HE).mono ?_
      rintro e w3 ⟨rfl, hb⟩
      have HF3 := hid ((unhid HF2).below hb)
      have HO3 := hid ((unhid HO2).next hb)
      clear hb HF2 HO2 HE c0 c1 c2 c3
      go_wp2_with fail
      refine (parse_ok (unhid HFF) w3 (unhid HO3).gl).mono ?_
      rintro e w4 ⟨hb, A2, c2, rfl, hi2⟩
      have hB4 := ((unhid HF3).below hb).lt
      have HF4 := hid (((unhid HF3).below hb).below (below_alloc w4 (.cells #[.int .i64 f.shape, .int .i64 f.size, .int .i64 f.height, .slice A2 f.items.length c2] 25)))
      have HO4 := hid (((unhid HO3).next hb).lay (.cells #[.int .i64 f.shape, .int .i64 f.size, .int .i64 f.height, .slice A2 f.items.length c2] 25))
      have HG4 := hid (FaceAt.new w4 c2 hi2)
      clear hb HF3 HO3 hi2
      obtain ⟨c0, c1, c2', c3⟩ := (unhid HF4).cells
      go_upto_region 5 with (fail)
      generalize w4.alloc (.cells #[.int .i64 f.shape, .int .i64 f.size, .int .i64 f.height, .slice A2 f.items.length c2] 25) = W4 at *
      generalize w4.heap.size = B4 at *
      obtain ⟨d0, d1, d2, d3⟩ := (unhid HG4).cells
      have hpos := fmtF_pos f
      have hmax := fmtF_len (unhid HFF)
      obtain ⟨s, hs⟩ : ∃ s, s = fmtF f := ⟨_, rfl⟩
      rw [← hs] at hpos hmax ⊢
      have HS := hid hs
      clear hs
      have s0 : ((s.length : Int) == 0) = false := by rw [beq_eq_false_iff_ne]; omega
      have s1 : (s.length : Int) ≠ 0 := by omega
      obtain ⟨i, hi⟩ : ∃ i : Nat, i = (a % (s.length : Int)).toNat := ⟨_, rfl⟩
      have hm0 : 0 ≤ a % (s.length : Int) := Int.emod_nonneg _ s1
      have hm1 : a % (s.length : Int) < s.length := Int.emod_lt_of_pos _ (by omega)
      have e1 : a.tmod (s.length : Int) = (i : Int) := by rw [Int.tmod_eq_emod_of_nonneg a0, hi]; exact (Int.toNat_of_nonneg hm0).symm
      have hil : i < s.length := by
        have := Int.toNat_of_nonneg hm0
        rw [← hi] at this
        rw [← this] at hm1
        omega
      clear hi hm0 hm1
      obtain ⟨e2, e2'⟩ := w64 (n := (i : Int)) (by omega) (by omega)
      obtain ⟨e3, e3'⟩ := w64 (n := (i : Int) + 1) (by omega) (by omega)
      go_wp2_with fail
      refine (same_calls f f A A2 c c2 W4 (unhid HF4).ok (unhid HG4).ok).mono ?_
      rintro e w5 ⟨rfl, hb⟩
      rw [eqF_self]
      have HF5 := hid ((unhid HF4).below hb)
      have HG5 := hid ((unhid HG4).below hb)
      have HO5 := hid ((unhid HO4).next hb)
      clear hb HF4 HO4 HG4 c0 c1 c2' c3 d0 d1 d2 d3
      go_wp2_with fail
      have hz := zsb s
      have hsl1 : ∀ W, (Instr.slice 9 (.string (SB s)) none (some (.int .i64 (i : Int))) none).run Tryz.prog W = .ok (.string ((SB s).extract 0 i)) W := fun W => by
        rw [run_slice_string_h (ht := Tryz.underlying9) (w := W) (kh := .i64) (h := (i : Int)) (h0 := by omega) (h2 := by omega)]
        rfl
      have hsl2 : ∀ W, (Instr.slice 9 (.string (SB s)) (some (.int .i64 ((i : Int) + 1))) none none).run Tryz.prog W = .ok (.string ((SB s).extract (i + 1) s.length)) W := fun W => by
        rw [run_slice_string_l (ht := Tryz.underlying9) (w := W) (kl := .i64) (l := (i : Int) + 1) (h0 := by omega) (h1 := by omega)]
        rfl
      obtain ⟨X1, hX1⟩ : ∃ X1, X1 = (SB s).extract 0 i := ⟨_, rfl⟩
      obtain ⟨X2, hX2⟩ : ∃ X2, X2 = (SB s).extract (i + 1) s.length := ⟨_, rfl⟩
      have z1 : X1.size ≤ 2000 := by rw [hX1, ByteArray.size_extract]; omega
      have z3 : X1.size + X2.size ≤ 9223372036854775807 := by rw [hX1, hX2, ByteArray.size_extract, ByteArray.size_extract]; omega
      have z2 : X2.size ≤ 2000 := by rw [hX2, ByteArray.size_extract]; omega
      have HOLE := hid (show X1 ++ X2 = SB (s.take i ++ s.drop (i + 1)) by rw [hX1, hX2]; exact SB_hole s i)
      rw [← hX1] at hsl1
      rw [← hX2] at hsl2
      clear hX1 hX2
      refine wp_region_noPanic ?_
      refine wp_region_E (S := fun _ => True) 13 14 rfl (by kernel_rfl) (by kernel_rfl) trivial ?_
      intro hSE
      (refine WE_take (i := 0) (v := ?_) rfl (by kernel_rfl) (by decide) (by kernel_rfl) (by kernel_rfl) (fun _ _ _ h => h) (by rfl) hSE ?_ ?_; rotate_left; (focus (intro w hSw; (try dsimp only at hSw); go_simp; (try with_reducible rfl))); simp only [Act.put, List.setIfInBounds_toArray, List.set_cons_zero, List.set_cons_succ])
      (refine WE_take (i := 1) (v := ?_) rfl (by kernel_rfl) (by decide) (by kernel_rfl) (by kernel_rfl) (fun _ _ _ h => h) (by rfl) hSE ?_ ?_; rotate_left; (focus (intro w hSw; (try dsimp only at hSw); go_simp; (try with_reducible rfl))); simp only [Act.put, List.setIfInBounds_toArray, List.set_cons_zero, List.set_cons_succ])
      (refine WE_take (i := 2) (v := ?_) rfl (by kernel_rfl) (by decide) (by kernel_rfl) (by kernel_rfl) (fun _ _ _ h => h) (by rfl) hSE ?_ ?_; rotate_left; (focus (intro w hSw; (try dsimp only at hSw); go_simp; (try with_reducible rfl))); simp only [Act.put, List.setIfInBounds_toArray, List.set_cons_zero, List.set_cons_succ])
      (refine WE_take (i := 3) (v := ?_) rfl (by kernel_rfl) (by decide) (by kernel_rfl) (by kernel_rfl) (fun _ _ _ h => h) (by rfl) hSE ?_ ?_; rotate_left; (focus (intro w hSw; (try dsimp only at hSw); go_simp; (try with_reducible rfl))); simp only [Act.put, List.setIfInBounds_toArray, List.set_cons_zero, List.set_cons_succ])
      (refine WE_take (i := 4) (v := ?_) rfl (by kernel_rfl) (by decide) (by kernel_rfl) (by kernel_rfl) (fun _ _ _ h => h) (by rfl) hSE ?_ ?_; rotate_left; (focus (intro w hSw; (try dsimp only at hSw); go_simp; (try with_reducible rfl))); simp only [Act.put, List.setIfInBounds_toArray, List.set_cons_zero, List.set_cons_succ])
      (refine WE_take (i := 5) (v := ?_) rfl (by kernel_rfl) (by decide) (by kernel_rfl) (by kernel_rfl) (fun _ _ _ h => h) (by rfl) hSE ?_ ?_; rotate_left; (focus (intro w hSw; (try dsimp only at hSw); go_simp; (try with_reducible rfl))); simp only [Act.put, List.setIfInBounds_toArray, List.set_cons_zero, List.set_cons_succ])
      (refine WE_take (i := 6) (v := ?_) rfl (by kernel_rfl) (by decide) (by kernel_rfl) (by kernel_rfl) (fun _ _ _ h => h) (by rfl) hSE ?_ ?_; rotate_left; (focus (intro w hSw; (try dsimp only at hSw); go_simp; (try with_reducible rfl))); simp only [Act.put, List.setIfInBounds_toArray, List.set_cons_zero, List.set_cons_succ])
      refine WE_take (i := 7) (v := .string (X1 ++ X2)) rfl (by kernel_rfl) (by decide) (by kernel_rfl) (by kernel_rfl) (fun _ _ _ h => h) (by rfl) hSE ?_ ?_
      · intro w hSw
        go_simp
      simp only [Act.put, List.setIfInBounds_toArray, List.set_cons_zero, List.set_cons_succ]
      (refine WE_one (i := 8) rfl (by decide) (by kernel_rfl) ?_; intro K hK)
      go_simp
      go_at_call 21
      rw [unhid HOLE]
      refine (parse_other (f := f) (s := s.take i ++ s.drop (i + 1)) (fun e => ?_) _ ((unhid HO5).next (Below.drew (Below.refl _ _))).gl).mono ?_
      · have := congrArg List.length e
        rw [← unhid HS] at this
        simp at this
        omega
      rintro e w6 ⟨hb, g, A3, c3, er, rfl, hi3, her⟩
      have HF6 := hid ((unhid HF5).below (below_trans (Below.drew (Below.refl _ _)) hb))
      have HG6 := hid ((unhid HG5).below (below_trans (Below.drew (Below.refl _ _)) hb))
      have HO6 := hid ((unhid HO5).next (below_trans (Below.drew (Below.refl _ _)) hb))
      clear hb HF5 HG5 HO5
      refine hK.out _ _ trivial ?_
      clear hSE hK K
      intro hSE
      (try simp only [Act.put, List.setIfInBounds_toArray, List.set_cons_zero, List.set_cons_succ])
      (refine WE_take (i := 9) (v := ?_) rfl (by kernel_rfl) (by decide) (by kernel_rfl) (by kernel_rfl) (fun _ _ _ h => h) (by rfl) hSE ?_ ?_; rotate_left; (focus (intro w hSw; (try dsimp only at hSw); go_simp; (try with_reducible rfl))); simp only [Act.put, List.setIfInBounds_toArray, List.set_cons_zero, List.set_cons_succ])
      (refine WE_take (i := 10) (v := ?_) rfl (by kernel_rfl) (by decide) (by kernel_rfl) (by kernel_rfl) (fun _ _ _ h => h) (by rfl) hSE ?_ ?_; rotate_left; (focus (intro w hSw; (try dsimp only at hSw); go_simp; (try with_reducible rfl))); simp only [Act.put, List.setIfInBounds_toArray, List.set_cons_zero, List.set_cons_succ])
      (refine WE_take (i := 11) (v := ?_) rfl (by kernel_rfl) (by decide) (by kernel_rfl) (by kernel_rfl) (fun _ _ _ h => h) (by rfl) hSE ?_ ?_; rotate_left; (focus (intro w hSw; (try dsimp only at hSw); go_simp; (try with_reducible rfl))); simp only [Act.put, List.setIfInBounds_toArray, List.set_cons_zero, List.set_cons_succ])
      (refine WE_one (i := 12) rfl (by decide) (by kernel_rfl) ?_; intro K hK)
      rw [if_pos (by rfl)]
      refine wp_store_row 25 (.tmp 7) (.tmp 60) rfl B4 #[.int .i64 g.shape, .int .i64 g.size, .int .i64 g.height, .slice A3 g.items.length c3] rfl rfl 25 _ (unhid HG6).heap (fi_size _ _ _ _) rfl (fi_one _ _ _ _ _ _) ?_
      refine hK.out _ _ trivial ?_
      clear hSE hK K
      intro hSE
      (try simp only [Act.put, List.setIfInBounds_toArray, List.set_cons_zero, List.set_cons_succ])
      (refine WE_last rfl (by kernel_rfl) (by kernel_rfl) (by kernel_rfl) ?_; intro K hK; go_simp; refine hK.out _ _ (NoPanic.normal ?_); clear hK K)
      have HF7 := hid (FaceAt.mk (f := f) (A := A) (c := c) (B := w.heap.size) ((setRow_other w6 B4 w.heap.size #[.int .i64 g.shape, .int .i64 g.size, .int .i64 g.height, .slice A3 g.items.length c3] (by omega)).trans (unhid HF6).heap) ((unhid HF6).ok.row (unhid HG6).heap _))
      have HG7 := hid (FaceAt.mk (f := g) (A := A3) (c := c3) (B := B4) (setRow_heap w6 B4 _ #[.int .i64 g.shape, .int .i64 g.size, .int .i64 g.height, .slice A3 g.items.length c3] _ _ (unhid HG6).heap) (hi3.row (unhid HG6).heap _))
      have HO7 := hid ((unhid HO6).row (unhid HG0) (show w.heap.size ≤ B4 by omega) #[.int .i64 g.shape, .int .i64 g.size, .int .i64 g.height, .slice A3 g.items.length c3])
      generalize w6.setRow B4 #[.int .i64 g.shape, .int .i64 g.size, .int .i64 g.height, .slice A3 g.items.length c3] = W7 at *
      clear HF6 HG6 HO6 hi3
      obtain ⟨c0, c1, c2', c3'⟩ := (unhid HF7).cells
      obtain ⟨d0, d1, d2, d3⟩ := (unhid HG7).cells
      rcases her with ⟨rfl, rfl⟩ | ⟨rfl, hne⟩
      · go_wp2_with fail
        refine (same_zero A3 c3 W7).mono ?_
        rintro e w8 ⟨rfl, hb⟩
        have HO8 := hid ((unhid HO7).next hb)
        clear hb HF7 HG7 HO7 c0 c1 c2' c3' d0 d1 d2 d3
        go_wp2_with fail
        refine (unhid HO8).first.mono ?_
        rintro e w9 ⟨rfl, hb2⟩
        have HB2 := hid hb2
        clear hb2
        go_wp2_with fail
        go_ret
        exact ⟨rfl, unhid HB2⟩
      · have HNE := hid (eqF_no hne)
        go_wp2_with fail
        refine (same_calls f g A A3 c c3 W7 (unhid HF7).ok (unhid HG7).ok).mono ?_
        rintro e w8 ⟨rfl, hb⟩
        rw [unhid HNE]
        have HO8 := hid ((unhid HO7).next hb)
        clear hb HF7 HG7 HO7 c0 c1 c2' c3' d0 d1 d2 d3
        go_wp2_with fail
        refine (unhid HO8).first.mono ?_
        rintro e w9 ⟨rfl, hb2⟩
        have HB2 := hid hb2
        clear hb2
        go_wp2_with fail
        go_ret
        exact ⟨rfl, unhid HB2⟩

end Go.Proofs.YtmagidoodlkeoaaGreatDoor
