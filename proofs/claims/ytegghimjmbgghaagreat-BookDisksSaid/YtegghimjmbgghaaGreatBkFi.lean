/-
  The first entry of bytes: first of the program.
-/
import Derived.Test.YtegghimjmbgghaaGreatBkSl
set_option linter.unusedSimpArgs false
set_option linter.unusedVariables false
namespace Go.Proofs.YtegghimjmbgghaaGreat
open Go.RowKit Go.Shelf

/-- What first returns. -/
def FiPost (w : World) (l : List UInt8) (e : Ending) (w' : World) : Prop :=
  (¬ FstE l ∧ e = .returned (.tuple #[.slice none 0 0, .int .i64 0]) ∧ Below w.heap.size w w') ∨
  (FstE l ∧ ∃ (A' : Option Addr) (c' : Nat), e = .returned (.tuple #[.slice A' (entE l).length c', .int .i64 ((lenE l + 7 : Nat) : Int)]) ∧ w'.ownsRow w.heap.size 5 1 (.slice A' (entE l).length c') (entE l).length (bys (entE l)) ∧ Below w.heap.size w w')
theorem lenE_is {l : List UInt8} {x y : UInt8} (h : 3 ≤ l.length) (hx : l[1]'(by omega) = x) (hy : l[2]'(by omega) = y) : lenE l = x.toNat * 256 + y.toNat := by
  unfold lenE
  match l, h with
  | a :: b :: c :: l, _ =>
    have e1 : b = x := hx
    have e2 : c = y := hy
    subst e1 e2
    simp [numV]

set_option maxHeartbeats 4000000 in
set_option maxRecDepth 100000 in
theorem pfirst_calls (l : List UInt8) (A : Option Addr) (c : Nat) (w : World) (hr : Rd w A (bys l)) (hn : l.length ≤ 1000000) (hc : l.length ≤ c) :
    Calls Tryz.prog 73 #[.slice A l.length c] w fun e w' => FiPost w l e w' := by
  have HR := hid hr
  have HL := hid hn
  have HC := hid hc
  clear hr hn hc
  go_enter Tryz.func73, Tryz.ntmps73
  have hl5 : (l.length : Int) ≤ 1000000 := by have := unhid HL; omega
  by_cases h3 : l.length < 3
  · have h3i : (l.length : Int) < 3 := by omega
    have HP := hid (show FiPost w l (.returned (.tuple #[.slice none 0 0, .int .i64 0])) w from .inl ⟨fun h => by have := h.1; omega, rfl, Below.refl _ _⟩)
    go_wp2_with fail
    go_ret2
    exact unhid HP
  · have h3i : ¬ (l.length : Int) < 3 := by omega
    obtain ⟨b, off, hAe, hbl, hcc⟩ := (unhid HR) (bys_ne (k := 0) (by omega))
    obtain ⟨z, hz⟩ : ∃ z, l[0]'(by omega) = z := ⟨_, rfl⟩
    obtain ⟨x, hx⟩ : ∃ x, l[1]'(by omega) = x := ⟨_, rfl⟩
    obtain ⟨y, hy⟩ : ∃ y, l[2]'(by omega) = y := ⟨_, rfl⟩
    have k0 : w.cell? ⟨b, off, none⟩ = some (.int .u8 (z.toNat : Int)) := by
      have h := hcc 0 _ (bys_at (by omega))
      rw [hz] at h
      exact h
    have k1 := hcc 1 _ (bys_at (by omega))
    have k2 := hcc 2 _ (bys_at (by omega))
    rw [hx] at k1
    rw [hy] at k2
    have HLE := hid (lenE_is (by omega) hx hy)
    have HZ := hid (show l[0]? = some z from by rw [List.getElem?_eq_getElem (by omega), hz])
    have HBL := hid hbl
    subst hAe
    clear hz hx hy hcc hbl
    by_cases hm : z = 66
    · have hmn : (z.toNat : Int) = 66 := by rw [hm]; rfl
      have hmi : ((z.toNat : Int) != 66) = false := by rw [hmn]; rfl
      have hme : ((z.toNat : Int) == 66) = true := by rw [hmn]; rfl
      have HZ6 := hid (show l[0]? = some 66 from by rw [unhid HZ, hm])
      have hxl : x.toNat < 256 := x.toNat_lt
      have hyl : y.toNat < 256 := y.toNat_lt
      have hor := or_i64 x.toNat y.toNat hyl (by omega)
      have k1a := fun p : After w => (After.cell (a := ⟨b, off + 1, none⟩) (unhid HBL) k1 p : p.w.cell? ⟨b, off + 1, none⟩ = some (.int .u8 (x.toNat : Int)))
      have k2a := fun p : After w => (After.cell (a := ⟨b, off + 2, none⟩) (unhid HBL) k2 p : p.w.cell? ⟨b, off + 2, none⟩ = some (.int .u8 (y.toNat : Int)))
      have h3j : 3 ≤ (l.length : Int) := by omega
      clear hm
      go_upto_region 3 with (fail)
      (refine wp_region_below (by kernel_rfl) (by kernel_rfl) ?_; (repeat (go_big_quiet_step (first | fail))); refine wpQuiet_nil ?_; intro wq hw'; obtain ⟨⟨wq2, hbq⟩, hw''⟩ := hw'; dsimp only at hw''; subst hw'')
      clear k0 k1 k2 k1a k2a hmn hmi hme
      have HB := hid hbq
      have HR := hid ((unhid HR).below hbq)
      clear hbq
      obtain ⟨N, hN⟩ : ∃ N, N = lenE l := ⟨_, rfl⟩
      have hxy : (x.toNat : Int) * 256 + (y.toNat : Int) = (N : Int) := by rw [hN, unhid HLE]; omega
      have HN := hid hN
      have HNB := hid (show N ≤ 65535 from by rw [hN, unhid HLE]; omega)
      rw [hxy]
      clear hN hxy hor hxl hyl
      by_cases hbig : 2000 < N
      · have hbi : (2000 : Int) < (N : Int) := by omega
        have HP := hid (show FiPost w l (.returned (.tuple #[.slice none 0 0, .int .i64 0])) wq from .inl ⟨fun h => by have := h.2.2.1; have := unhid HN; omega, rfl, unhid HB⟩)
        go_wp2_with fail
        go_ret2
        exact unhid HP
      · have hbi : ¬ (2000 : Int) < (N : Int) := by omega
        have hw3 : wrap64 (3 + (N : Int)) = 3 + (N : Int) := by unfold wrap64; omega
        have hw7 : wrap64 (3 + (N : Int) + 4) = 3 + (N : Int) + 4 := by unfold wrap64; omega
        by_cases hsh : l.length < N + 7
        · have hsi : (l.length : Int) < 3 + (N : Int) + 4 := by omega
          have HP := hid (show FiPost w l (.returned (.tuple #[.slice none 0 0, .int .i64 0])) wq from .inl ⟨fun h => by have := h.2.2.2.1; have := unhid HN; omega, rfl, unhid HB⟩)
          go_wp2_with fail
          go_ret2
          exact unhid HP
        · have hsi : ¬ (l.length : Int) < 3 + (N : Int) + 4 := by omega
          have HLC := hid (show N + 7 ≤ l.length ∧ N ≤ 2000 ∧ l.length ≤ c from ⟨by omega, by omega, unhid HC⟩)
          go_upto_region 7 with (fail)
          have hs1 := slice_lh (some ⟨b, off, none⟩) l.length c (3 + N) (3 + N + 4) (by omega) (by have := unhid HLC; omega) (3 + (N : Int)) (3 + (N : Int) + 4) (by omega) (by omega)
          have hs2 := slice_h (some ⟨b, off, none⟩) l.length c (3 + N) (by have := unhid HLC; omega) (3 + (N : Int)) (by omega)
          have h4 : 3 + N + 4 - (3 + N) = 4 := by omega
          rw [h4] at hs1
          have HL4 := hid (show ((l.drop (3 + N)).take 4).length = 4 from by rw [List.length_take, List.length_drop]; have := unhid HLC; omega)
          have HL3 := hid (show (l.take (3 + N)).length = 3 + N from by rw [List.length_take]; have := unhid HLC; omega)
          have KR := hid (fun p : After wq => (by
            have h := read_calls ((l.drop (3 + N)).take 4) (cutA (some ⟨b, off, none⟩) c (3 + N)) (c - (3 + N)) p.w (rd_takeB (rd_cut ((unhid HR).below p.below) (unhid HC)) 4) (by rw [unhid HL4]; omega)
            rw [unhid HL4] at h
            exact h : Calls Tryz.prog 104 #[.slice (cutA (some ⟨b, off, none⟩) c (3 + N)) 4 (c - (3 + N))] p.w fun e w' => e = .returned (.int .u64 (numV ((l.drop (3 + N)).take 4) : Int)) ∧ p.w = w'))
          have KC := hid (fun p : After wq => (by
            have h := checksum_calls (l.take (3 + N)) (some ⟨b, off, none⟩) c p.w (rd_takeB ((unhid HR).below p.below) (3 + N)) (by rw [unhid HL3]; have := unhid HLC; omega)
            rw [unhid HL3] at h
            exact h : Calls Tryz.prog 105 #[.slice (some ⟨b, off, none⟩) (3 + N) c] p.w fun e w' => e = .returned (.int .u32 (crcL (l.take (3 + N)) : Nat)) ∧ p.w = w'))
          obtain ⟨p1, hp1⟩ : ∃ p1, p1 = numV ((l.drop (3 + N)).take 4) := ⟨_, rfl⟩
          obtain ⟨p2, hp2⟩ : ∃ p2, p2 = crcL (l.take (3 + N)) := ⟨_, rfl⟩
          have HPP := hid (⟨hp1, hp2⟩ : _ ∧ _)
          have hp2l : p2 < 4294967296 := by rw [hp2]; exact crcL_lt _
          rw [← hp1] at KR
          rw [← hp2] at KC
          have hwc : IntKind.u64.wrap (p2 : Int) = (p2 : Int) := by simp [IntKind.wrap, IntKind.signed, IntKind.bits]; omega
          clear hp1 hp2 h4 hbi hsi
          by_cases hpp : p1 = p2
          · have hne : ((p1 : Int) != (p2 : Int)) = false := by rw [hpp]; simp
            have HF := hid (show FstE l from ⟨by omega, unhid HZ6, by have := unhid HN; have := unhid HLC; omega, by have := unhid HN; have := unhid HLC; omega, by
              rw [← unhid HN, ← (unhid HPP).1, ← (unhid HPP).2]
              exact hpp⟩)
            clear hpp
            (refine wp_region_below (by kernel_rfl) (by kernel_rfl) ?_; (repeat (go_big_quiet_step (first | (go_at_call 104; exact Calls.after_same ((unhid KR) _)) | (go_at_call 105; exact Calls.after_same ((unhid KC) _))))); refine wpQuiet_nil ?_; intro wq hw'; obtain ⟨⟨wq2, hbq⟩, hw''⟩ := hw'; dsimp only at hw''; subst hw'')
            have HB := hid ((unhid HB).trans (hbq.mono (unhid HB).size))
            have HR := hid ((unhid HR).below hbq)
            clear hbq hs1 hs2 KR KC hne hwc
            have hs3 := slice_lh (some ⟨b, off, none⟩) l.length c 3 (3 + N) (by omega) (by have := unhid HLC; omega) 3 (3 + (N : Int)) (by omega) (by omega)
            have h3n : 3 + N - 3 = N := by omega
            rw [h3n] at hs3
            have HEL := hid (show (entE l).length = N from by rw [(unhid HF).ent_len, unhid HN])
            have KC := hid (by
              have h := clone_calls (entE l) (cutA (some ⟨b, off, none⟩) c 3) (c - 3) wq (rd_takeB (rd_cut (unhid HR) (unhid HC)) (lenE l)) (by rw [unhid HEL]; have := unhid HLC; omega)
              rw [unhid HEL] at h
              exact h : Calls Tryz.prog 79 #[.slice (cutA (some ⟨b, off, none⟩) c 3) N (c - 3)] wq fun e w' => ClPost wq (entE l) e w')
            clear h3n
            go_wp2_with fail
            refine (unhid KC).mono ?_
            rintro e w5 ⟨A', c', rfl, hown, hb5⟩
            have HP := hid (show FiPost w l (.returned (.tuple #[.slice A' (entE l).length c', .int .i64 (3 + (N : Int) + 4)])) w5 from by
              rw [show 3 + (N : Int) + 4 = ((lenE l + 7 : Nat) : Int) from by rw [← unhid HN]; omega]
              exact .inr ⟨unhid HF, A', c', rfl, own_base hown (unhid HB).size, (unhid HB).trans (hb5.mono (unhid HB).size)⟩)
            clear hown hb5 hs3
            go_wp2_with fail
            go_ret2
            exact unhid HP
          · have hne : ((p1 : Int) != (p2 : Int)) = true := by
              rw [bne_iff_ne]
              omega
            have HF := hid (show ¬ FstE l from fun h => hpp (by
              rw [(unhid HPP).1, (unhid HPP).2]
              have h5 := h.2.2.2.2
              rwa [← unhid HN] at h5))
            clear hpp
            (refine wp_region_below (by kernel_rfl) (by kernel_rfl) ?_; (repeat (go_big_quiet_step (first | (go_at_call 104; exact Calls.after_same ((unhid KR) _)) | (go_at_call 105; exact Calls.after_same ((unhid KC) _))))); refine wpQuiet_nil ?_; intro wq hw'; obtain ⟨⟨wq2, hbq⟩, hw''⟩ := hw'; dsimp only at hw''; subst hw'')
            have HB := hid ((unhid HB).trans (hbq.mono (unhid HB).size))
            clear hbq hs1 hs2 KR KC hne hwc
            have HP := hid (show FiPost w l (.returned (.tuple #[.slice none 0 0, .int .i64 0])) wq from .inl ⟨unhid HF, rfl, unhid HB⟩)
            go_wp2_with fail
            go_ret2
            exact unhid HP
    · have hmi : ((z.toNat : Int) != 66) = true := bne_iff_ne.2 (fun e => hm (UInt8.toNat_inj.1 (show z.toNat = 66 by omega)))
      have HP := hid (show FiPost w l (.returned (.tuple #[.slice none 0 0, .int .i64 0])) w from .inl ⟨fun h => by
        have h1 := h.2.1
        rw [unhid HZ] at h1
        exact hm (Option.some.inj h1), rfl, Below.refl _ _⟩)
      have hmn : ¬ (z.toNat : Int) = 66 := bne_iff_ne.1 hmi
      have hme : ((z.toNat : Int) == 66) = false := beq_eq_false_iff_ne.2 hmn
      clear hm
      go_wp2_with fail
      go_ret2
      exact unhid HP

end Go.Proofs.YtegghimjmbgghaaGreat
