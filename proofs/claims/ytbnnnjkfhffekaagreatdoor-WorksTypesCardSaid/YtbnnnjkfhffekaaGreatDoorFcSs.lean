/-
  The columns at which strips begin: package face and the reference.
-/
import Derived.Test.YtbnnnjkfhffekaaGreatDoorFcCu
import Derived.Test.YtbnnnjkfhffekaaGreatDoorWaL
import Derived.Test.YtbnnnjkfhffekaaGreatDoorFcAt
set_option linter.unusedSimpArgs false
set_option linter.unusedVariables false
namespace Go.Proofs.YtbnnnjkfhffekaaGreatDoor
open Go.RowKit

theorem info_i64 : (Tryz.prog.info? 3).map (fun i => (i.zero, i.size, i.bytes)) = some (some (.int .i64 0), 1, 8) := by kernel_rfl
theorem info_parts1 {i : TypeId} {z : Value} {a b : Nat} (h : (Tryz.prog.info? i).map (fun i => (i.zero, i.size, i.bytes)) = some (some z, a, b)) : ∃ i0, Tryz.prog.info? i = some i0 ∧ i0.zero = some z ∧ i0.size = a ∧ i0.bytes = b := by
  cases hi : Tryz.prog.info? i with
  | none => rw [hi] at h; cases h
  | some i0 =>
    rw [hi] at h
    simp at h
    exact ⟨i0, rfl, h.1, h.2.1, h.2.2⟩
theorem own_below1 {w w' : World} {base e size n : Nat} {v : Value} {xs : List Value} (h : w.ownsRow base e size v n xs) (hb : Below w.heap.size w w') : w'.ownsRow base e size v n xs := by
  obtain ⟨h1, h2⟩ := h
  refine ⟨h1, ?_⟩
  rcases h2 with h2 | ⟨g, cap, cur, e1, e2, e3, e4⟩
  · exact .inl h2
  · exact .inr ⟨g, cap, cur, e1, e2, (hb.block g (Array.getElem?_eq_some_iff.1 e3).1).trans e3, e4⟩

theorem own_base {w : World} {b base e size n : Nat} {v : Value} {xs : List Value} (h : w.ownsRow base e size v n xs) (hb : b ≤ base) : w.ownsRow b e size v n xs := by
  obtain ⟨h1, h2⟩ := h
  refine ⟨h1, ?_⟩
  rcases h2 with h2 | ⟨g, cap, cur, e1, e2, e3⟩
  · exact .inl h2
  · exact .inr ⟨g, cap, cur, e1, Nat.le_trans hb e2, e3⟩

/-- The seams that are returned, and the error. -/
def seamL (f : Fc) (width : Int) : List Int := if 1 ≤ width ∧ width ≤ 200 then (seamsP f width.toNat).getD [] else []
def seamE (f : Fc) (width : Int) : Int := if 1 ≤ width ∧ width ≤ 200 then (match seamsP f width.toNat with | some _ => 0 | none => 11) else 2
def seamQ (f : Fc) (width : Int) (w : World) (e : Ending) (w' : World) : Prop :=
  Below w.heap.size w w' ∧ ∃ (A : Option Addr) (c : Nat), e = .returned (.tuple #[.slice A (seamL f width).length c, .int .i64 (seamE f width)]) ∧ w'.ownsRow w.heap.size 3 1 (.slice A (seamL f width).length c) (seamL f width).length (ints (seamL f width))
theorem seamQ_arg {f : Fc} {width : Int} {w w' : World} (h : ¬ (1 ≤ width ∧ width ≤ 200)) (hb : Below w.heap.size w w') : seamQ f width w (.returned (.tuple #[.slice none 0 0, .int .i64 2])) w' := by
  unfold seamQ seamL seamE
  rw [if_neg h, if_neg h]
  exact ⟨hb, none, 0, rfl, World.ownsRow_nil _ _ _ _⟩
theorem seamQ_none {f : Fc} {width : Nat} {w w' : World} (h : 1 ≤ (width : Int) ∧ (width : Int) ≤ 200) (hs : seamsP f width = none) (hb : Below w.heap.size w w') : seamQ f width w (.returned (.tuple #[.slice none 0 0, .int .i64 11])) w' := by
  unfold seamQ seamL seamE
  rw [if_pos h, if_pos h, Int.toNat_natCast, hs]
  exact ⟨hb, none, 0, rfl, World.ownsRow_nil _ _ _ _⟩
theorem seamQ_some {f : Fc} {width : Nat} {w w' : World} {l : List Int} {A : Option Addr} {c : Nat} (h : 1 ≤ (width : Int) ∧ (width : Int) ≤ 200) (hs : seamsP f width = some l) (hb : Below w.heap.size w w') (hr : w'.ownsRow w.heap.size 3 1 (.slice A l.length c) l.length (ints l)) : seamQ f width w (.returned (.tuple #[.slice A l.length c, .int .i64 0])) w' := by
  unfold seamQ seamL seamE
  rw [if_pos h, if_pos h, Int.toNat_natCast, hs]
  exact ⟨hb, A, c, rfl, hr⟩

set_option maxHeartbeats 4000000 in
set_option maxRecDepth 100000 in
theorem seams_calls (f : Fc) (A : Option Addr) (c : Nat) (width : Int) (w : World) (hit : ItsOk w A f.items) (hf : fcB f = true) :
    Calls Tryz.prog 43 #[.agg #[.int .i64 f.shape, .int .i64 f.size, .int .i64 f.height, .slice A f.items.length c], .int .i64 width] w (seamQ f width w) := by
  have HV := hid hf
  obtain ⟨s0, s1⟩ := size_bounds hf
  have HF0 := hid (FaceAt.new w c hit)
  have hb0 : Below w.heap.size w (w.alloc (.cells #[.int .i64 f.shape, .int .i64 f.size, .int .i64 f.height, .slice A f.items.length c] 60)) := below_alloc _ _
  have HB0 := hid hb0
  clear hit hb0
  by_cases hw : 1 ≤ width ∧ width ≤ 200
  · obtain ⟨wd, hwd⟩ := Int.eq_ofNat_of_zero_le (show 0 ≤ width by omega)
    subst hwd
    have HWD := hid hw
    have HST := hid (SeamI.start (f := f) (width := wd) ⟨by omega, by omega⟩)
    obtain ⟨w0, w1⟩ := hw
    go_enter Tryz.func43, Tryz.ntmps43
    go_wp2_with fail
    generalize w.alloc (.cells #[.int .i64 f.shape, .int .i64 f.size, .int .i64 f.height, .slice A f.items.length c] 60) = W0 at *
    refine (valid_calls f A c W0 (unhid HF0).ok).mono ?_
    rintro e wa ⟨rfl, hba⟩
    have HFa := hid ((unhid HF0).below hba)
    have HBa := hid ((unhid HB0).trans (hba.mono (unhid HB0).size))
    clear hba HF0 HB0
    rw [unhid HV]
    obtain ⟨c0, c1, c2, c3⟩ := (unhid HFa).cells
    go_wp2_with (go_at_call 59; refine (within_b _ _ _ _).mono ?_; rintro e w' ⟨rfl, rfl⟩; rw [show wiB 1 (wd : Int) 200 = true from decide_eq_true (unhid HWD)])
    refine (extent_calls f A c wa (by omega) (by omega)).mono ?_
    rintro e W ⟨rfl, hbb⟩
    have HF := hid ((unhid HFa).below hbb)
    have HBW := hid ((unhid HBa).trans (hbb.mono (unhid HBa).size))
    clear hbb HFa HBa c0 c1 c2 c3
    go_wp2_with fail
    go_loopw [6, 9] (fun v i wr => ∃ (a : Int) (acc : List Int), SeamI f wd a acc ∧ i = .int .i64 a ∧ wr.ownsRow W.heap.size 3 1 v acc.length (ints acc) ∧ Below W.heap.size W wr) (fun _ i _ => 1000 - (intOf i).toNat)
    case atStart => exact ⟨0, [], unhid HST, rfl, World.ownsRow_nil _ _ _ _, Below.refl _ _⟩
    case round =>
      obtain ⟨a, acc, hsi, rfl, hown, hbel⟩ := hrel
      have b0 := hsi.lo
      have b1 := hsi.hi
      have b2 := hsi.len
      have HSI := hid hsi
      have HOWN := hid hown
      obtain ⟨A0, ca, rfl, hrd0, hcap0, -, -⟩ := own_slice2 hown
      have HBEL := hid hbel
      have HRD0 := hid hrd0
      clear hsi hown hbel hrd0
      obtain ⟨e0, e0'⟩ := w64 (n := f.size - a) (by omega) (by omega)
      obtain ⟨e1, e1'⟩ := w64 (n := a + wd) (by omega) (by omega)
      by_cases he : f.size - a ≤ wd
      · have HFIN := hid ((unhid HSI).fin he)
        have hd : ¬ (wd : Int) < f.size - a := by omega
        go_wp2_with fail
        go_ret2
        exact seamQ_some (unhid HWD) (unhid HFIN) ((unhid HBW).trans ((unhid HBEL).mono (unhid HBW).size)) (own_base (unhid HOWN) (unhid HBW).size)
      · have hd : (wd : Int) < f.size - a := by omega
        have HE := hid he
        clear he
        go_wp2_with fail
        go_loopw [10] (fun i wz => ∃ m : Nat, m ≤ wd ∧ i = .int .i64 (a + m) ∧ dnS f a wd = dnS f a m ∧ Below wr.heap.size wr wz) (fun i _ => (intOf i).toNat)
        case atStart => exact ⟨wd, Nat.le_refl _, rfl, rfl, Below.refl _ _⟩
        case round =>
          obtain ⟨m, hm, rfl, hdn, hbz⟩ := hrel
          have HDN := hid hdn
          have HBZ := hid hbz
          clear hdn hbz
          have HF1 := hid (((unhid HF).below (unhid HBEL)).below (unhid HBZ))
          obtain ⟨c0, c1, c2, c3⟩ := (unhid HF1).cells
          by_cases hm0 : m = 0
          · subst hm0
            have HSTK := hid ((unhid HSI).stuck (by have := unhid HE; omega) (unhid HDN))
            go_wp2_with fail
            go_ret2
            exact seamQ_none (unhid HWD) (unhid HSTK) ((unhid HBW).trans (((unhid HBEL).trans ((unhid HBZ).mono (unhid HBEL).size)).mono (unhid HBW).size))
          · obtain ⟨p, hp⟩ : ∃ p : Int, p = a + (m : Int) := ⟨_, rfl⟩
            rw [← hp]
            have hpa : a < p := by omega
            have hpb : p ≤ a + wd := by omega
            have hne : (p == a) = false := by rw [beq_eq_false_iff_ne]; omega
            obtain ⟨e2, e2'⟩ := w64 (n := p - 1) (by omega) (by omega)
            obtain ⟨m1, hm1⟩ : ∃ m1, m = m1 + 1 := ⟨m - 1, by omega⟩
            have HP := hid hp
            have HM1 := hid hm1
            clear hp hm0
            go_wp2_with fail
            refine (cuts_calls f A c p wr (unhid HF1).ok (unhid HV)).mono ?_
            rintro e w6 ⟨rfl, hb6⟩
            have HB6 := hid ((unhid HBZ).trans (hb6.mono (unhid HBZ).size))
            clear hb6 c0 c1 c2 c3
            cases hcut : cutF f p with
            | true =>
              have HCUT := hid (show dnS f a wd = dnS f a m1 by
                have h1 := unhid HDN
                have h2 := unhid HP
                rw [unhid HM1] at h1 h2
                rw [h1, dnS_cut (by rw [← h2]; exact hcut)])
              go_wp2_with fail
              go_roundw
              case rel => exact ⟨m1, by have := unhid HM1; omega, congrArg (Value.int .i64) (by have := unhid HM1; have := unhid HP; omega), unhid HCUT, unhid HB6⟩
              case measure => have := unhid HP; simp [intOf]; omega
            | false =>
              have HCUT := hid (show dnS f a wd = p by
                have h1 := unhid HDN
                have h2 := unhid HP
                rw [unhid HM1] at h1 h2
                rw [h1, dnS_stop (by rw [← h2]; exact hcut), h2])
              obtain ⟨i0, hi, hz0, hz1, hz2⟩ := info_parts1 info_i64
              have HO6 := hid (own_below1 (unhid HOWN) (unhid HB6))
              have HB7 := hid ((unhid HBEL).trans ((unhid HB6).mono (unhid HBEL).size))
              go_wp2_with (at_builtin; refine wpList_append_own _ rfl _ _ 34 rfl W.heap.size 3 i0 (.int .i64 0) 1 8 Tryz.underlying34 hi hz0 hz1 hz2 rfl (by decide) _ _ _ rfl ((unhid HO6).alloc _) ⟨w6.heap.size, 0, none⟩ 1 1 [.int .i64 p] rfl rfl ?c1 ?c2 ?c3 ?c4 ?c5 ?_)
              case c1 =>
                intro j u hj
                match j, hj with
                | 0, hj => simp at hj; subst hj; simp [Addr.add, go_sem]
              case c2 => intro u hu; simp at hu; subst hu; rfl
              case c3 => unfold maxLen; omega
              case c4 => omega
              case c5 => have := (unhid HB7).size; simp; omega
              intro v' w3 hown3 hg3 _
              have hb3 : Below W.heap.size W w3 := by
                refine Below.grown ((unhid HB7).alloc (unhid HB7).size _) hg3 (by have := (unhid HB7).size; simp; omega) (fun i hi => ?_)
                rcases Nat.lt_or_ge i W.heap.size with h | h
                · exact absurd hi (own_ne (unhid HO6) (Or.inl h))
                · exact h
              have HO3 := hid hown3
              clear hown3 hg3
              go_wp2_with fail
              go_roundw
              case rel =>
                have hnx := (unhid HSI).next (by have := unhid HE; omega) (by rw [unhid HCUT]; omega)
                rw [unhid HCUT] at hnx
                exact ⟨p, acc ++ [p], hnx, rfl, by simpa [ints] using unhid HO3, hb3⟩
              case measure => simp [intOf]; omega

  · have HNW := hid hw
    go_enter Tryz.func43, Tryz.ntmps43
    go_wp2_with fail
    generalize w.alloc (.cells #[.int .i64 f.shape, .int .i64 f.size, .int .i64 f.height, .slice A f.items.length c] 60) = W0 at *
    refine (valid_calls f A c W0 (unhid HF0).ok).mono ?_
    rintro e wa ⟨rfl, hba⟩
    have HBa := hid ((unhid HB0).trans (hba.mono (unhid HB0).size))
    clear hba HF0 HB0
    rw [unhid HV]
    go_wp2_with (go_at_call 59; refine (within_b _ _ _ _).mono ?_; rintro e w' ⟨rfl, rfl⟩; rw [show wiB 1 width 200 = false from decide_eq_false (unhid HNW)])
    go_ret2
    exact seamQ_arg (unhid HNW) (unhid HBa)
set_option maxHeartbeats 4000000 in
set_option maxRecDepth 100000 in
theorem seams_no (f : Fc) (A : Option Addr) (c : Nat) (width : Int) (w : World) (hit : ItsOk w A f.items) (hf : fcB f = false) :
    Calls Tryz.prog 43 #[.agg #[.int .i64 f.shape, .int .i64 f.size, .int .i64 f.height, .slice A f.items.length c], .int .i64 width] w fun e w' => e = .returned (.tuple #[.slice none 0 0, .int .i64 10]) ∧ Below w.heap.size w w' := by
  have HV := hid hf
  have HF0 := hid (FaceAt.new w c hit)
  have hb0 : Below w.heap.size w (w.alloc (.cells #[.int .i64 f.shape, .int .i64 f.size, .int .i64 f.height, .slice A f.items.length c] 60)) := below_alloc _ _
  have HB0 := hid hb0
  clear hit hb0 hf
  go_enter Tryz.func43, Tryz.ntmps43
  go_wp2_with fail
  generalize w.alloc (.cells #[.int .i64 f.shape, .int .i64 f.size, .int .i64 f.height, .slice A f.items.length c] 60) = W0 at *
  refine (valid_calls f A c W0 (unhid HF0).ok).mono ?_
  rintro e wa ⟨rfl, hba⟩
  have HBa := hid ((unhid HB0).trans (hba.mono (unhid HB0).size))
  clear hba HF0 HB0
  rw [unhid HV]
  go_wp2_with fail
  go_ret2
  exact ⟨rfl, unhid HBa⟩
set_option maxHeartbeats 4000000 in
set_option maxRecDepth 100000 in
theorem rseams_calls (f : Fc) (A : Option Addr) (c : Nat) (width : Int) (w : World) (hit : ItsOk w A f.items) (hf : fcB f = true) :
    Calls Tryz.prog 34 #[.agg #[.int .i64 f.shape, .int .i64 f.size, .int .i64 f.height, .slice A f.items.length c], .int .i64 width] w (seamQ f width w) := by
  have HV := hid hf
  obtain ⟨s0, s1⟩ := size_bounds hf
  have HF0 := hid (FaceAt.new w c hit)
  have hb0 : Below w.heap.size w (w.alloc (.cells #[.int .i64 f.shape, .int .i64 f.size, .int .i64 f.height, .slice A f.items.length c] 60)) := below_alloc _ _
  have HB0 := hid hb0
  clear hit hb0
  by_cases hw : 1 ≤ width ∧ width ≤ 200
  · obtain ⟨wd, hwd⟩ := Int.eq_ofNat_of_zero_le (show 0 ≤ width by omega)
    subst hwd
    have HWD := hid hw
    have HST := hid (SeamI.start (f := f) (width := wd) ⟨by omega, by omega⟩)
    obtain ⟨w0, w1⟩ := hw
    go_enter Tryz.func34, Tryz.ntmps34
    go_wp2_with (go_at_call 44; refine (rwithin_b _ _ _ _).mono ?_; rintro e w' ⟨rfl, rfl⟩; rw [show wiB 1 (wd : Int) 200 = true from decide_eq_true (unhid HWD)])
    generalize w.alloc (.cells #[.int .i64 f.shape, .int .i64 f.size, .int .i64 f.height, .slice A f.items.length c] 60) = W0 at *
    obtain ⟨c0, c1, c2, c3⟩ := (unhid HF0).cells
    refine (rextent_calls f A c W0 (by omega) (by omega)).mono ?_
    rintro e W ⟨rfl, hbb⟩
    have HF := hid ((unhid HF0).below hbb)
    have HBW := hid ((unhid HB0).trans (hbb.mono (unhid HB0).size))
    clear hbb HF0 HB0 c0 c1 c2 c3
    go_wp2_with fail
    go_loopw [8, 9] (fun v i wr => ∃ (a : Int) (acc : List Int), SeamI f wd a acc ∧ i = .int .i64 a ∧ wr.ownsRow W.heap.size 3 1 v acc.length (ints acc) ∧ Below W.heap.size W wr) (fun _ i _ => 1000 - (intOf i).toNat)
    case atStart => exact ⟨0, [], unhid HST, rfl, World.ownsRow_nil _ _ _ _, Below.refl _ _⟩
    case round =>
      obtain ⟨a, acc, hsi, rfl, hown, hbel⟩ := hrel
      have b0 := hsi.lo
      have b1 := hsi.hi
      have b2 := hsi.len
      have HSI := hid hsi
      have HOWN := hid hown
      obtain ⟨A0, ca, rfl, hrd0, hcap0, -, -⟩ := own_slice2 hown
      have HBEL := hid hbel
      have HRD0 := hid hrd0
      clear hsi hown hbel hrd0
      obtain ⟨e0, e0'⟩ := w64 (n := f.size - a) (by omega) (by omega)
      obtain ⟨e1, e1'⟩ := w64 (n := a + wd) (by omega) (by omega)
      by_cases he : f.size - a ≤ wd
      · have HFIN := hid ((unhid HSI).fin he)
        have hd : ¬ (wd : Int) < f.size - a := by omega
        go_wp2_with fail
        go_ret2
        exact seamQ_some (unhid HWD) (unhid HFIN) ((unhid HBW).trans ((unhid HBEL).mono (unhid HBW).size)) (own_base (unhid HOWN) (unhid HBW).size)
      · have hd : (wd : Int) < f.size - a := by omega
        have HE := hid he
        clear he
        go_wp2_with fail
        go_loopw [10] (fun i wz => ∃ m : Nat, m ≤ wd ∧ i = .int .i64 (a + m) ∧ dnS f a wd = dnS f a m ∧ Below wr.heap.size wr wz) (fun i _ => (intOf i).toNat)
        case atStart => exact ⟨wd, Nat.le_refl _, rfl, rfl, Below.refl _ _⟩
        case round =>
          obtain ⟨m, hm, rfl, hdn, hbz⟩ := hrel
          have HDN := hid hdn
          have HBZ := hid hbz
          clear hdn hbz
          have HF1 := hid (((unhid HF).below (unhid HBEL)).below (unhid HBZ))
          obtain ⟨c0, c1, c2, c3⟩ := (unhid HF1).cells
          by_cases hm0 : m = 0
          · subst hm0
            have HSTK := hid ((unhid HSI).stuck (by have := unhid HE; omega) (unhid HDN))
            go_wp2_with fail
            go_ret2
            exact seamQ_none (unhid HWD) (unhid HSTK) ((unhid HBW).trans (((unhid HBEL).trans ((unhid HBZ).mono (unhid HBEL).size)).mono (unhid HBW).size))
          · obtain ⟨p, hp⟩ : ∃ p : Int, p = a + (m : Int) := ⟨_, rfl⟩
            rw [← hp]
            have hpa : a < p := by omega
            have hpb : p ≤ a + wd := by omega
            have hne : (p == a) = false := by rw [beq_eq_false_iff_ne]; omega
            obtain ⟨e2, e2'⟩ := w64 (n := p - 1) (by omega) (by omega)
            obtain ⟨m1, hm1⟩ : ∃ m1, m = m1 + 1 := ⟨m - 1, by omega⟩
            have HP := hid hp
            have HM1 := hid hm1
            clear hp hm0
            go_wp2_with fail
            refine (rforb_calls f A c p wr (unhid HF1).ok (unhid HV)).mono ?_
            rintro e w6 ⟨rfl, hb6⟩
            have HB6 := hid ((unhid HBZ).trans (hb6.mono (unhid HBZ).size))
            clear hb6 c0 c1 c2 c3
            cases hcut : cutF f p with
            | true =>
              have HCUT := hid (show dnS f a wd = dnS f a m1 by
                have h1 := unhid HDN
                have h2 := unhid HP
                rw [unhid HM1] at h1 h2
                rw [h1, dnS_cut (by rw [← h2]; exact hcut)])
              go_wp2_with fail
              go_roundw
              case rel => exact ⟨m1, by have := unhid HM1; omega, congrArg (Value.int .i64) (by have := unhid HM1; have := unhid HP; omega), unhid HCUT, unhid HB6⟩
              case measure => have := unhid HP; simp [intOf]; omega
            | false =>
              have HCUT := hid (show dnS f a wd = p by
                have h1 := unhid HDN
                have h2 := unhid HP
                rw [unhid HM1] at h1 h2
                rw [h1, dnS_stop (by rw [← h2]; exact hcut), h2])
              obtain ⟨i0, hi, hz0, hz1, hz2⟩ := info_parts1 info_i64
              have HO6 := hid (own_below1 (unhid HOWN) (unhid HB6))
              have HB7 := hid ((unhid HBEL).trans ((unhid HB6).mono (unhid HBEL).size))
              go_wp2_with (at_builtin; refine wpList_append_own _ rfl _ _ 34 rfl W.heap.size 3 i0 (.int .i64 0) 1 8 Tryz.underlying34 hi hz0 hz1 hz2 rfl (by decide) _ _ _ rfl ((unhid HO6).alloc _) ⟨w6.heap.size, 0, none⟩ 1 1 [.int .i64 p] rfl rfl ?c1 ?c2 ?c3 ?c4 ?c5 ?_)
              case c1 =>
                intro j u hj
                match j, hj with
                | 0, hj => simp at hj; subst hj; simp [Addr.add, go_sem]
              case c2 => intro u hu; simp at hu; subst hu; rfl
              case c3 => unfold maxLen; omega
              case c4 => omega
              case c5 => have := (unhid HB7).size; simp; omega
              intro v' w3 hown3 hg3 _
              have hb3 : Below W.heap.size W w3 := by
                refine Below.grown ((unhid HB7).alloc (unhid HB7).size _) hg3 (by have := (unhid HB7).size; simp; omega) (fun i hi => ?_)
                rcases Nat.lt_or_ge i W.heap.size with h | h
                · exact absurd hi (own_ne (unhid HO6) (Or.inl h))
                · exact h
              have HO3 := hid hown3
              clear hown3 hg3
              go_wp2_with fail
              go_roundw
              case rel =>
                have hnx := (unhid HSI).next (by have := unhid HE; omega) (by rw [unhid HCUT]; omega)
                rw [unhid HCUT] at hnx
                exact ⟨p, acc ++ [p], hnx, rfl, by simpa [ints] using unhid HO3, hb3⟩
              case measure => simp [intOf]; omega

  · have HNW := hid hw
    go_enter Tryz.func34, Tryz.ntmps34
    go_wp2_with (go_at_call 44; refine (rwithin_b _ _ _ _).mono ?_; rintro e w' ⟨rfl, rfl⟩; rw [show wiB 1 width 200 = false from decide_eq_false (unhid HNW)])
    go_ret2
    exact seamQ_arg (unhid HNW) (unhid HB0)

end Go.Proofs.YtbnnnjkfhffekaaGreatDoor
