/-
  The law FaceSeams.
-/
import Derived.Test.YtmagidoodlkeoaaGreatDoorFcSs
import Derived.Test.YtmagidoodlkeoaaGreatDoorFcX
set_option linter.unusedSimpArgs false
set_option linter.unusedVariables false
namespace Go.Proofs.YtmagidoodlkeoaaGreatDoor
open Go.RowKit

set_option maxHeartbeats 2000000 in
set_option maxRecDepth 100000 in
theorem sameInts_self (l : List Int) (A A2 : Option Addr) (c c2 : Nat) (w : World) (h1 : Rd w A (ints l)) (h2 : Rd w A2 (ints l)) (hn : l.length ≤ 100000) :
    Calls Tryz.prog 48 #[.slice A l.length c, .slice A2 l.length c2] w fun e w' => e = .returned (.bool true) ∧ Below w.heap.size w w' := by
  have H1 := hid h1
  have H2 := hid h2
  clear h1 h2
  have hlen' : ((l.length : Int) != (l.length : Int)) = false := by simp
  go_enter Tryz.func48, Tryz.ntmps48
  go_wp2_with fail
  go_loopw [5] (fun i wr => ∃ k : Nat, k ≤ l.length ∧ i = .int .i64 k ∧ Below w.heap.size w wr) (fun i _ => l.length - (intOf i).toNat)
  case atStart => exact ⟨0, Nat.zero_le _, rfl, Below.refl _ _⟩
  case round =>
    obtain ⟨k, hk, rfl, hbel⟩ := hrel
    have HBL := hid hbel
    by_cases hlt : k < l.length
    · obtain ⟨b, off, rfl, hb, hc⟩ := ((unhid H1).below hbel) (ints_ne hlt)
      obtain ⟨b2, off2, rfl, hb2, hc2⟩ := ((unhid H2).below hbel) (ints_ne hlt)
      have m0 := hc k _ (ints_at l k hlt)
      have m1 := hc2 k _ (ints_at l k hlt)
      clear hc hc2 hbel
      generalize l[k] = x at *
      have hx : (x != x) = false := by simp
      go_wp2_with fail
      go_quiet (fail)
      go_wp2_with fail
      go_roundw
      case rel => exact ⟨k + 1, by omega, by go_num, by first | exact below_drewN' (unhid HBL) _ | exact Below.drew (unhid HBL)⟩
      case measure => simp [intOf]; omega
    · clear hbel
      go_wp2_with fail
      go_ret
      exact ⟨rfl, unhid HBL⟩

theorem seamL_len (f : Fc) (width : Int) (hf : fcB f = true) : (seamL f width).length ≤ 1000 := by
  unfold seamL
  split
  · cases hs : seamsP f width.toNat with
    | none => simp
    | some l =>
      obtain ⟨-, h2⟩ := seams_best (width := width.toNat) hf
      obtain ⟨hgood, -, -⟩ := h2 l hs
      have hsz := size_bounds hf
      have hlen : ∀ (l : List Int) (a : Int), a ≤ 200 → goodS f width.toNat a l → (a : Int) + l.length ≤ 200 := by
        intro l
        induction l with
        | nil =>
          intro a h0 hg
          simpa using h0
        | cons c l ih =>
          intro a h0 hg
          obtain ⟨g1, g2, -, -, g5⟩ := hg
          have := ih c (by omega) g5
          simp
          omega
      have := hlen l 0 (by omega) hgood
      simp
      omega
  · simp

set_option maxHeartbeats 4000000 in
set_option maxRecDepth 100000 in
theorem fseams_calls (f : Fc) (A : Option Addr) (c : Nat) (width : Int) (w : World) (hg : Gl w) (hit : ItsOk w A f.items) :
    Calls Tryz.prog 13 #[.agg #[.int .i64 f.shape, .int .i64 f.size, .int .i64 f.height, .slice A f.items.length c], .int .i64 width] w fun e w' => e = .returned (.bool true) ∧ Below w.heap.size w w' := by
  have HF := hid (FaceAt.new w c hit)
  have HO := hid ((On.start hg).lay (.cells #[.int .i64 f.shape, .int .i64 f.size, .int .i64 f.height, .slice A f.items.length c] 25))
  clear hg hit
  go_enter Tryz.func13, Tryz.ntmps13
  go_wp2_with fail
  generalize w.alloc (.cells #[.int .i64 f.shape, .int .i64 f.size, .int .i64 f.height, .slice A f.items.length c] 25) = W at *
  refine (long_calls f A c W (unhid HF).ok).mono ?_
  rintro e w1 ⟨rfl, hw1⟩
  have hb : Below W.heap.size W w1 := hw1 ▸ below_alloc _ _
  have HF := hid ((unhid HF).below hb)
  have HO := hid ((unhid HO).next hb)
  clear hw1 hb
  cases hl : longB f with
  | true =>
    go_wp2_with fail
    refine (unhid HO).first.mono ?_
    rintro e w9 ⟨rfl, hb2⟩
    have HB2 := hid hb2
    clear hb2
    go_wp2_with fail
    go_ret
    exact ⟨rfl, unhid HB2⟩
  | false =>
    obtain ⟨c0, c1, c2, c3⟩ := (unhid HF).cells
    cases hf : fcB f with
    | false =>
      have HFF := hid hf
      go_wp2_with fail
      refine (seams_no f A c width w1 (unhid HF).ok (unhid HFF)).mono ?_
      rintro e w2 ⟨rfl, hb⟩
      have HF := hid ((unhid HF).below hb)
      have HO := hid ((unhid HO).next hb)
      clear hb c0 c1 c2 c3
      obtain ⟨c0, c1, c2, c3⟩ := (unhid HF).cells

      go_wp2_with fail
      refine (rvalid_calls f A c w2 (unhid HF).ok).mono ?_
      rintro e w3 ⟨rfl, hb⟩
      rw [unhid HFF]
      have HF := hid ((unhid HF).below hb)
      have HO := hid ((unhid HO).next hb)
      clear hb c0 c1 c2 c3
      obtain ⟨c0, c1, c2, c3⟩ := (unhid HF).cells

      go_wp2_with fail
      refine (unhid HO).first.mono ?_
      rintro e w9 ⟨rfl, hb2⟩
      have HB2 := hid hb2
      clear hb2
      go_wp2_with fail
      go_ret
      exact ⟨rfl, unhid HB2⟩

    | true =>
      have HFF := hid hf
      have hsl := seamL_len f width hf
      go_wp2_with fail
      refine (seams_calls f A c width w1 (unhid HF).ok (unhid HFF)).mono ?_
      rintro e w2 ⟨hb, A1, k1, rfl, hr1⟩
      have HF := hid ((unhid HF).below hb)
      have HO := hid ((unhid HO).next hb)
      clear hb c0 c1 c2 c3
      obtain ⟨c0, c1, c2, c3⟩ := (unhid HF).cells

      go_wp2_with fail
      refine (rvalid_calls f A c w2 (unhid HF).ok).mono ?_
      rintro e w3 ⟨rfl, hb⟩
      rw [unhid HFF]
      have HR1 := hid (hr1.below hb)
      clear hr1
      have HF := hid ((unhid HF).below hb)
      have HO := hid ((unhid HO).next hb)
      clear hb c0 c1 c2 c3
      obtain ⟨c0, c1, c2, c3⟩ := (unhid HF).cells

      go_wp2_with fail
      refine (rseams_calls f A c width w3 (unhid HF).ok (unhid HFF)).mono ?_
      rintro e w4 ⟨hb, A2, k2, rfl, hr2⟩
      have HR2 := hid hr2
      have HR1 := hid ((unhid HR1).below hb)
      clear hr2
      have HF := hid ((unhid HF).below hb)
      have HO := hid ((unhid HO).next hb)
      clear hb c0 c1 c2 c3
      obtain ⟨c0, c1, c2, c3⟩ := (unhid HF).cells

      generalize seamL f width = l at *
      generalize seamE f width = er at *
      have hee : (er == er) = true := by simp
      go_wp2_with fail
      refine (sameInts_self l A1 A2 k1 k2 w4 (unhid HR1) (unhid HR2) (by omega)).mono ?_
      rintro e w5 ⟨rfl, hb⟩
      have HF := hid ((unhid HF).below hb)
      have HO := hid ((unhid HO).next hb)
      clear hb c0 c1 c2 c3
      obtain ⟨c0, c1, c2, c3⟩ := (unhid HF).cells

      go_wp2_with fail
      refine (unhid HO).first.mono ?_
      rintro e w9 ⟨rfl, hb2⟩
      have HB2 := hid hb2
      clear hb2
      go_wp2_with fail
      go_ret
      exact ⟨rfl, unhid HB2⟩

end Go.Proofs.YtmagidoodlkeoaaGreatDoor
