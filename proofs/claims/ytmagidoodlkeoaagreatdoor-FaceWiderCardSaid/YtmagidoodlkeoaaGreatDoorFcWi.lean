/-
  The law FaceWider.
-/
import Derived.Test.YtmagidoodlkeoaaGreatDoorFcPo
import Derived.Test.YtmagidoodlkeoaaGreatDoorFcPf
set_option linter.unusedSimpArgs false
set_option linter.unusedVariables false
namespace Go.Proofs.YtmagidoodlkeoaaGreatDoor
open Go.RowKit

/-- The lowest row of the line before. -/
def lowV (ls : List (List UInt8)) (unit : Int) : Nat → Int
  | 0 => heightP ls.length unit - unit
  | k + 1 => lowP ls.length unit k
theorem lowV_next {ls : List (List UInt8)} {unit : Int} {k : Nat} (hu : 1 ≤ unit) (hk : k < ls.length) : lowP ls.length unit k + 7 * unit ≤ lowV ls unit k := by
  cases k with
  | zero => exact (lowP_bounds hu hk).2.1
  | succ j => exact (lowP_bounds hu (k := j) (by omega)).2.2
theorem lowV_top {ls : List (List UInt8)} {unit : Int} (hu : 1 ≤ unit) : ∀ k, k ≤ ls.length → lowV ls unit k ≤ heightP ls.length unit
  | 0, _ => by show heightP ls.length unit - unit ≤ _; omega
  | k + 1, hk => by
    have h1 := lowV_top (ls := ls) hu k (by omega)
    have h2 := lowV_next (ls := ls) (k := k) hu (by omega)
    show lowP ls.length unit k ≤ _
    omega
theorem panI_at (ls : List (List UInt8)) (unit ground ink : Int) {n k : Nat} (hk : k < n) : (panI ls unit ground ink n)[k + 2]? = some ⟨6, ink, (sizeP ls unit - lenS (ls.getD k []) unit) / 2, lowP ls.length unit k, unit, 0, ls.getD k []⟩ := by
  unfold panI
  rw [List.getElem?_append_right (by simp)]
  exact linesP_at ls unit ink n k hk
theorem panI_len (ls : List (List UInt8)) (unit ground ink : Int) (n : Nat) : (panI ls unit ground ink n).length = n + 2 := by simp [panI, linesP_len]
theorem panN_zero {ls : List (List UInt8)} {unit ground ink : Int} (h : panN ls unit ground ink = 0) : argsP ls unit ground ink = true ∧ (∀ l ∈ ls, lenB l unit = true) ∧ sizeP ls unit ≤ 200 ∧ heightP ls.length unit ≤ 200 := by
  unfold panN at h
  by_cases h1 : (argsP ls unit ground ink && ls.all (fun l => lenB l unit)) = true
  · rw [if_pos h1] at h
    by_cases h3 : 200 < sizeP ls unit ∨ 200 < heightP ls.length unit
    · rw [if_pos h3] at h
      omega
    · rw [Bool.and_eq_true, List.all_eq_true] at h1
      exact ⟨h1.1, h1.2, by omega, by omega⟩
  · rw [if_neg h1] at h
    omega
theorem panN_cases (ls : List (List UInt8)) (unit ground ink : Int) : panN ls unit ground ink = 0 ∨ panN ls unit ground ink = 2 ∨ panN ls unit ground ink = 11 := by
  unfold panN
  split
  · split
    · exact .inr (.inr rfl)
    · exact .inl rfl
  · exact .inr (.inl rfl)
theorem lenS_getD {ls : List (List UInt8)} {unit : Int} (h : ∀ l ∈ ls, lenB l unit = true) {k : Nat} (hk : k < ls.length) : lenB (ls.getD k []) unit = true := by
  rw [List.getD_eq_getElem?_getD, List.getElem?_eq_getElem hk]
  exact h _ (List.getElem_mem hk)
/-- A text of the row is set. -/
theorem row_set {w : World} {base n cap g : Nat} {e : TypeId} {ls : List (List UInt8)} (h : w.ownsRow base e 1 (.slice (some ⟨g, 0, none⟩) n cap) n (strs ls)) (m : Nat) (l : List UInt8) :
    Rd (w.setCell ⟨g, m, none⟩ (.string (SB l))) (some ⟨g, 0, none⟩) (strs (ls.set m l)) := by
  intro _
  obtain ⟨hl, h⟩ := h
  rcases h with ⟨h1, -⟩ | ⟨g', cap', cur, h1, -, hh, -, -, -, ht⟩
  · simp at h1
  · injection h1 with h1 h2 h3
    injection h1 with h1
    injection h1 with h1
    subst h1
    have hs : (w.setCell ⟨g, m, none⟩ (.string (SB l))).heap[g]? = some (.cells (cur.setIfInBounds m (.string (SB l))) e (0, 0)) := heap_setCell_same _ _ _ _ _ _ hh
    refine ⟨g, 0, rfl, (Array.getElem?_eq_some_iff.1 hs).1, fun j u hj => ?_⟩
    rw [Nat.zero_add, cell_of_row _ _ _ _ _ _ hs]
    have hjl : j < (strs (ls.set m l)).length := (List.getElem?_eq_some_iff.1 hj).1
    have hjn : j < n * 1 := by simp [strs] at hjl hl; omega
    have hcj : cur[j]? = (strs ls)[j]? := by
      rw [← ht, List.getElem?_take, if_pos hjn]
      simp
    by_cases e : m = j
    · subst e
      have hlt : m < ls.length := by simpa [strs] using hjl
      have hcz : m < cur.size := by
        have : (strs ls)[m]? ≠ none := by simp [strs, hlt]
        rw [← hcj] at this
        simpa using this
      rw [Array.getElem?_setIfInBounds_self_of_lt hcz, ← hj]
      simp [strs, hlt]
    · rw [Array.getElem?_setIfInBounds_ne e, hcj, ← hj]
      simp [strs, List.getElem?_set_ne e]

theorem blk_kept {w w' : World} {b : Nat} {o : Obj} (h : w.heap[b]? = some o) (hb : Below w.heap.size w w') : w'.heap[b]? = some o := (hb.block b (Array.getElem?_eq_some_iff.1 h).1).trans h
theorem addr_add2 (b off j : Nat) : (⟨b, off, none⟩ : Addr).add j = ⟨b, off + j, none⟩ := by unfold Addr.add; simp
theorem empty_rows {w : World} {E base : Nat} {e : TypeId} (h : w.heap[E]? = some (.cells #[] e (0, 0))) (hE : base ≤ E) (size : Nat) : w.ownsRow base e size (.slice (some ⟨E, 0, none⟩) 0 0) 0 [] :=
  ⟨by simp, .inr ⟨E, 0, #[], rfl, hE, h, by omega, by unfold maxLen; omega, by simp, by simp⟩⟩
theorem panF_yes {ls : List (List UInt8)} {unit ground ink : Int} (h : panN ls unit ground ink = 0) : panF ls unit ground ink = ⟨2, sizeP ls unit, heightP ls.length unit, panI ls unit ground ink ls.length⟩ := by
  unfold panF
  rw [if_pos h]
theorem own_some {w : World} {base e n : Nat} {v : Value} {xs : List Value} (h : w.ownsRow base e 1 v n xs) (hn : 0 < n) : ∃ g cap, v = .slice (some ⟨g, 0, none⟩) n cap ∧ base ≤ g ∧ (∀ j u, xs[j]? = some u → w.cell? ⟨g, j, none⟩ = some u) ∧ (∀ j, w.frozen? ⟨g, j, none⟩ = false) ∧ g < w.heap.size := by
  obtain ⟨hl, h⟩ := h
  rcases h with ⟨-, h0⟩ | ⟨g, cap, cur, h1, h2, h3, -, -, -, ht⟩
  · omega
  · refine ⟨g, cap, h1, h2, fun j u hj => ?_, fun j => frozen_of_row _ g j _ _ h3, (Array.getElem?_eq_some_iff.1 h3).1⟩
    have hjn : j < n * 1 := by rw [← hl]; exact (List.getElem?_eq_some_iff.1 hj).1
    rw [cell_of_row _ g j _ _ _ h3, ← hj, ← ht, List.getElem?_take, if_pos hjn]
    simp

set_option maxHeartbeats 8000000 in
set_option maxRecDepth 100000 in
theorem fwider_calls (ls : List (List UInt8)) (A : Option Addr) (c : Nat) (unit ground ink a : Int) (w : World) (hg : Gl w) (hls : StrsOk w A ls) (ha : 0 ≤ a ∧ a ≤ 255) :
    Calls Tryz.prog 11 #[.agg #[.slice A ls.length c, .int .i64 unit, .int .i64 ground, .int .i64 ink], .int .u8 a] w fun e w' => e = .returned (.bool true) ∧ Below w.heap.size w w' := by
  have zsb : ∀ l : List UInt8, (SB l).size = l.length := fun _ => rfl
  obtain ⟨i0, hi, hz0, hz1, hz2⟩ := info_parts info_str
  have hn := hls.n
  have HO := hid ((On.start hg).lay (.cells #[.slice A ls.length c, .int .i64 unit, .int .i64 ground, .int .i64 ink] 62))
  have HS := hid (SheetAt.new w c unit ground ink hls)
  have HP1 := hid (fun W (h : StrsOk W A ls) => (ppanel_calls ls A c unit ground ink W h).mono fun _ _ h => panR_both h)
  have HP2 := hid (fun W (h : StrsOk W A ls) => (rpanel_calls ls A c unit ground ink W h).mono fun _ _ h => panR_both h)
  clear hg hls
  go_enter Tryz.func11, Tryz.ntmps11
  go_upto_region 1 with (fail)
  change Code.wp _ _ _ _ (w.alloc (.cells #[.slice A ls.length c, .int .i64 unit, .int .i64 ground, .int .i64 ink] 62))
  generalize w.alloc (.cells #[.slice A ls.length c, .int .i64 unit, .int .i64 ground, .int .i64 ink] 62) = W at *
  obtain ⟨s0, s1, s2, s3⟩ := (unhid HS).cells
  by_cases hl : 8 < ls.length
  · have hd : (8 : Int) < (ls.length : Int) := by omega
    go_wp2_with fail
    refine (unhid HO).first.mono ?_
    rintro e w9 ⟨rfl, hb2⟩
    have HB2 := hid hb2
    clear hb2
    go_wp2_with fail
    go_ret
    exact ⟨rfl, unhid HB2⟩
  · have hd : ¬ (8 : Int) < (ls.length : Int) := by omega
    obtain ⟨g, hgd⟩ : ∃ g, g = panF ls unit ground ink := ⟨_, rfl⟩
    obtain ⟨er, her⟩ : ∃ er, er = panN ls unit ground ink := ⟨_, rfl⟩
    rw [← hgd, ← her] at HP1 HP2
    have HGD := hid hgd
    have HER := hid her
    clear hgd her
    go_wp2_with fail
    refine ((unhid HP1) W (unhid HS).ok).mono ?_
    rintro e w1 ⟨hb, A1, c1, rfl, hi1⟩
    have HO := hid ((unhid HO).next hb)
    have HS := hid ((unhid HS).below hb)
    have HI := hid hi1
    clear hb hi1 HP1 s0 s1 s2 s3
    go_upto_region 4 with (fail)
    change Code.wp _ _ _ _ (w1.alloc (.cells #[.int .i64 g.shape, .int .i64 g.size, .int .i64 g.height, .slice A1 g.items.length c1] 25))
    have HO := hid ((unhid HO).lay (.cells #[.int .i64 g.shape, .int .i64 g.size, .int .i64 g.height, .slice A1 g.items.length c1] 25))
    have HS := hid ((unhid HS).below (below_alloc w1 (.cells #[.int .i64 g.shape, .int .i64 g.size, .int .i64 g.height, .slice A1 g.items.length c1] 25)))
    have HF := hid (FaceAt.new w1 c1 (unhid HI))
    generalize w1.alloc (.cells #[.int .i64 g.shape, .int .i64 g.size, .int .i64 g.height, .slice A1 g.items.length c1] 25) = w2 at *
    generalize w1.heap.size = E at *
    obtain ⟨s0, s1, s2, s3⟩ := (unhid HS).cells
    go_wp2_with fail
    refine ((unhid HP2) w2 (unhid HS).ok).mono ?_
    rintro e w3 ⟨hb, A2, c2, rfl, -⟩
    have HO := hid ((unhid HO).next hb)
    have HS := hid ((unhid HS).below hb)
    have HF := hid ((unhid HF).below hb)
    clear hb HP2 s0 s1 s2 s3 HI
    go_upto_region 5 with (fail)
    change Code.wp _ _ _ _ (w3.alloc (.cells #[.int .i64 g.shape, .int .i64 g.size, .int .i64 g.height, .slice A2 g.items.length c2] 25))
    have hb := below_alloc w3 (.cells #[.int .i64 g.shape, .int .i64 g.size, .int .i64 g.height, .slice A2 g.items.length c2] 25)
    have HO := hid ((unhid HO).next hb)
    have HS := hid ((unhid HS).below hb)
    have HF := hid ((unhid HF).below hb)
    generalize w3.alloc (.cells #[.int .i64 g.shape, .int .i64 g.size, .int .i64 g.height, .slice A2 g.items.length c2] 25) = w4 at *
    clear hb
    by_cases h0 : er = 0
    rotate_left
    · have d0 : (er != 0) = true := by simp [h0]
      go_wp2_with fail
      refine (unhid HO).first.mono ?_
      rintro e w9 ⟨rfl, hb2⟩
      have HB2 := hid hb2
      clear hb2
      go_wp2_with fail
      go_ret
      exact ⟨rfl, unhid HB2⟩
    · subst h0
      obtain ⟨ha1, hall, hsz2, hhe2⟩ := panN_zero (unhid HER).symm
      have hg2 := (unhid HGD).trans (panF_yes (unhid HER).symm)
      subst hg2
      have HA := hid ha1
      simp only [argsP, Bool.and_eq_true, decide_eq_true_eq] at ha1
      obtain ⟨⟨⟨⟨⟨l1, l8⟩, u1, u2⟩, g1, g8⟩, k1, k8⟩, hne⟩ := ha1
      have HALL := hid hall
      clear hall HGD g1 g8 k1 k8 hne
      obtain ⟨L, hL⟩ : ∃ L, L = panI ls unit ground ink ls.length := ⟨_, rfl⟩
      rw [← hL] at HF
      have hLn : L.length = ls.length + 2 := by rw [hL]; exact panI_len _ _ _ _ _
      have HLA := hid (fun k (hk : k < ls.length) => (by rw [hL]; exact panI_at ls unit ground ink hk : L[k + 2]? = some ⟨6, ink, (sizeP ls unit - lenS (ls.getD k []) unit) / 2, lowP ls.length unit k, unit, 0, ls.getD k []⟩))
      clear hL
      have HLF := hid (fun k (hk : k < ls.length) => leftP_bounds u1 hk)
      have HLW := hid (fun k (hk : k < ls.length) => (⟨(lowP_bounds u1 hk).1, lowV_next u1 hk⟩ : unit ≤ lowP ls.length unit k ∧ lowP ls.length unit k + 7 * unit ≤ lowV ls unit k))
      have HLT := hid (fun k (hk : k ≤ ls.length) => lowV_top u1 k hk)
      have HMO := hid (fun m : Nat => size_more (ls := ls) u1 m)
      have HV0 := hid (show lowV ls unit 0 = heightP ls.length unit - unit from rfl)
      obtain ⟨sz, hsz⟩ : ∃ x, x = sizeP ls unit := ⟨_, rfl⟩
      obtain ⟨he, hhe⟩ : ∃ x, x = heightP ls.length unit := ⟨_, rfl⟩
      rw [← hsz] at HF HLA HLF HMO hsz2
      rw [← hhe] at HF HLT HV0 hhe2
      have HHE := hid hhe
      clear hsz hhe
      have hszl : (1 : Int) ≤ sz := by have h1 := (unhid HLF) 0 (by omega); have h2 := lenS_bounds (lenS_getD (unhid HALL) (k := 0) (by omega)); omega
      have hhel : (1 : Int) ≤ he := by have h1 := (unhid HLW) 0 (by omega); have h2 := (unhid HLT) 0 (by omega); omega
      obtain ⟨d0, d1, d2, d3⟩ := (unhid HF).cells
      obtain ⟨s0, s1, s2, s3⟩ := (unhid HS).cells
      dsimp only at d0 d1 d2 d3
      have hdl : ((L.length : Int) != 2 + (ls.length : Int)) = false := by simp; omega
      have HLn := hid hLn
      clear hLn
      go_wp2_with fail
      rw [← unhid HV0]
      clear d0 d1 d2 d3 s0 s1 s2 s3 hdl
      go_loopw [10, 9] (fun iv lv wr => ∃ k : Nat, k ≤ ls.length ∧ iv = .int .i64 ((k + 2 : Nat) : Int) ∧ lv = .int .i64 (lowV ls unit k) ∧ On w wr ∧ SheetAt wr w.heap.size A ls c unit ground ink ∧ FaceAt wr E ⟨2, sz, he, L⟩ A1 c1) (fun iv _ _ => ls.length + 2 - (intOf iv).toNat)
      case atStart => exact ⟨0, Nat.zero_le _, rfl, rfl, unhid HO, unhid HS, unhid HF⟩
      case round =>
        obtain ⟨k, hk, rfl, rfl, ho, hs, hf⟩ := hrel
        have HO := hid ho
        have HS := hid hs
        have HF := hid hf
        clear ho hs hf
        obtain ⟨d0, d1, d2, d3⟩ := (unhid HF).cells
        obtain ⟨s0, s1, s2, s3⟩ := (unhid HS).cells
        dsimp only at d0 d1 d2 d3
        obtain ⟨m, hm⟩ : ∃ m, m = k + 2 := ⟨_, rfl⟩
        by_cases hlt : k < ls.length
        · have hlt2 : m < L.length := by have h1 := unhid HLn; have h2 := hm; omega
          obtain ⟨b, off, hAb, hb, hc⟩ := (unhid HF).ok.rd (its_ne hlt2)
          obtain ⟨q0, q1, q2, q3, q4, q5, q6⟩ := its_cells hc hlt2
          have hx : L[m] = ⟨6, ink, (sz - lenS (ls.getD k []) unit) / 2, lowP ls.length unit k, unit, 0, ls.getD k []⟩ := by
            have := (unhid HLA) k hlt
            rw [← hm, List.getElem?_eq_getElem hlt2] at this
            exact Option.some.inj this
          rw [hx] at q0 q1 q2 q3 q4 q5 q6
          dsimp only at q0 q1 q2 q3 q4 q5 q6
          rw [hAb] at d3
          obtain ⟨f0, f1⟩ := (unhid HLF) k hlt
          obtain ⟨v0, v1⟩ := (unhid HLW) k hlt
          have v2 := (unhid HLT) k (by omega)
          have hlb := lenS_getD (unhid HALL) hlt
          obtain ⟨-, -, -, hln, z0, z1⟩ := lenS_bounds hlb
          have HLEN := hid (fun W => length_calls (ls.getD k []) unit W (by omega))
          rw [lenR_yes hlb] at HLEN
          have HV1 := hid (show lowV ls unit (k + 1) = lowP ls.length unit k from rfl)
          obtain ⟨tx, htx⟩ : ∃ tx, tx = ls.getD k [] := ⟨_, rfl⟩
          rw [← htx] at HLEN q2 q6 f0 f1 z0 z1
          obtain ⟨z, hz⟩ : ∃ z, z = lenS tx unit := ⟨_, rfl⟩
          rw [← hz] at HLEN q2 f0 f1 z0 z1
          obtain ⟨lf, hlf⟩ : ∃ x, x = (sz - z) / 2 := ⟨_, rfl⟩
          rw [← hlf] at q2 f0 f1
          obtain ⟨lw, hlw⟩ : ∃ x, x = lowP ls.length unit k := ⟨_, rfl⟩
          rw [← hlw] at q3 v0 v1 HV1
          obtain ⟨lo, hlo⟩ : ∃ x, x = lowV ls unit k := ⟨_, rfl⟩
          rw [← hlo] at v1 v2 ⊢
          clear hx hc htx hz hlf hlw hlo hlb hln
          rw [← hm]
          have hmi : (m : Int) < (L.length : Int) := by have := unhid HLn; omega
          have HM := hid hm
          clear hm
          go_upto_region 14 with (fail)
          change Code.wp _ _ _ _ (wr.alloc (.cells #[.int .i64 6, .int .i64 ink, .int .i64 lf, .int .i64 lw, .int .i64 unit, .int .i64 0, .string (SB tx)] 66))
          have hb1 := below_alloc wr (.cells #[.int .i64 6, .int .i64 ink, .int .i64 lf, .int .i64 lw, .int .i64 unit, .int .i64 0, .string (SB tx)] 66)
          have HO := hid ((unhid HO).next hb1)
          have HS := hid ((unhid HS).below hb1)
          have HF := hid ((unhid HF).below hb1)
          have hIt := heap_alloc_new wr (.cells #[.int .i64 6, .int .i64 ink, .int .i64 lf, .int .i64 lw, .int .i64 unit, .int .i64 0, .string (SB tx)] 66)
          generalize wr.alloc (.cells #[.int .i64 6, .int .i64 ink, .int .i64 lf, .int .i64 lw, .int .i64 unit, .int .i64 0, .string (SB tx)] 66) = w5 at *
          generalize wr.heap.size = IB at *
          clear hb1 d0 d1 d2 d3 s0 s1 s2 s3 q0 q1 q2 q3 q4 q5 q6 hAb hb
          have j4 := cell_of_row _ IB 4 _ _ _ hIt
          have j6 := cell_of_row _ IB 6 _ _ _ hIt
          simp at j4 j6
          have HIT := hid hIt
          clear hIt
          go_wp2_with fail
          refine ((unhid HLEN) w5).mono ?_
          rintro e w6 ⟨rfl, hb6⟩
          have HO := hid ((unhid HO).next hb6)
          have HS := hid ((unhid HS).below hb6)
          have HF := hid ((unhid HF).below hb6)
          have hIt := blk_kept (unhid HIT) hb6
          obtain ⟨d0, d1, d2, d3⟩ := (unhid HF).cells
          obtain ⟨s0, s1, s2, s3⟩ := (unhid HS).cells
          dsimp only at d0 d1 d2 d3
          have j2 := cell_of_row _ IB 2 _ _ _ hIt
          have j3 := cell_of_row _ IB 3 _ _ _ hIt
          have j4 := cell_of_row _ IB 4 _ _ _ hIt
          simp at j2 j3 j4
          clear hb6 hIt j6 HIT
          have e1 : ¬ lf < unit := by omega
          have e2 : ¬ sz - unit < lf + z := by omega
          have e3 : ¬ lw < unit := by omega
          have e4 : ¬ lo < lw + 7 * unit := by omega
          go_wp2_with fail
          go_roundw
          case rel => exact ⟨k + 1, by omega, by have h := unhid HM; rw [IntWalk.wrap64_in _ ⟨by omega, by omega⟩]; exact congrArg (Value.int .i64) (by omega), by rw [unhid HV1], unhid HO, unhid HS, unhid HF⟩
          case measure => have h := unhid HM; rw [IntWalk.wrap64_in _ ⟨by omega, by omega⟩]; simp [intOf]; omega
        · obtain rfl : k = ls.length := by omega
          have hmi : ¬ (m : Int) < (L.length : Int) := by have := unhid HLn; omega
          rw [← hm]
          have HM := hid hm
          clear hm
          have HSA := hid (unhid HS).ok
          obtain ⟨b, off, rfl, hb, hc⟩ := (unhid HS).ok.rd (strs_ne (k := 0) (by omega))
          have t1 := ((unhid HS).below (below_alloc wr (.cells #[] 9))).cells.1
          go_wp2_with (at_builtin; refine wpList_append_own _ rfl _ _ 60 rfl wr.heap.size 9 i0 (.string ByteArray.empty) 1 16 Tryz.underlying60 hi hz0 hz1 hz2 rfl (by decide) _ _ _ rfl (empty_rows (heap_alloc_new _ _) (Nat.le_refl _) 1) ⟨b, off, none⟩ ls.length c (strs ls) rfl (by simp [strs]) ?c1 ?c2 ?c3 ?c4 ?c5 ?_)
          case c1 => intro j u hj; show wr.cell? _ = _ ; exact (hc j u hj)
          case c2 => intro u hu; simp [strs] at hu; obtain ⟨l, -, rfl⟩ := hu; rfl
          case c3 => unfold maxLen; omega
          case c4 => omega
          intro v' w7 hown hg _
          have hown2 : w7.ownsRow wr.heap.size 9 1 v' ls.length (strs ls) := by simpa using hown
          have hb7 := Below.grown (below_alloc wr (.cells #[] 9)) hg (by simp) (fun q hq => by simp [Value.ownBlock] at hq; omega)
          obtain ⟨gg, cap, rfl, hgb, hgc, hgf, hgl⟩ := own_some hown2 (by omega)
          obtain ⟨an, rfl⟩ : ∃ an : Nat, a = (an : Int) := ⟨a.toNat, by omega⟩
          have hql : an % ls.length < ls.length := Nat.mod_lt _ (by omega)
          have t0 := hgc (an % ls.length) _ (strs_at hql)
          have f0 := hgf (an % ls.length)
          have hmo := (unhid HMO) (an % ls.length)
          have htl := (lenS_bounds (lenS_getD (unhid HALL) hql)).2.2.2.1
          obtain ⟨tx, htx⟩ : ∃ tx, tx = ls.getD (an % ls.length) [] := ⟨_, rfl⟩
          rw [← htx] at t0 hmo htl
          clear htx hgc hgf
          have HMQ := hid hmo
          have HOW := hid hown2
          have HB7 := hid hb7
          have HGB := hid hgb
          clear hmo hown hown2 hg hb7 hgb hc
          go_upto_region 20 with (fail)
          rw [show SB tx ++ ({ data := #[65] } : ByteArray) = SB (tx ++ [65]) from SB_add tx [65]]
          have hb8 := Below.setCell (p := ⟨gg, an % ls.length, none⟩) (unhid HB7) (unhid HGB) (.string (SB (tx ++ [65])))
          have HO := hid ((unhid HO).next hb8)
          have HS := hid ((unhid HS).below hb8)
          have HF := hid ((unhid HF).below hb8)
          have HSTR := hid (⟨by rw [List.length_set]; exact hn, row_set (unhid HOW) (an % ls.length) (tx ++ [65]), fun l hl => by
            rcases List.mem_or_eq_of_mem_set hl with h | rfl
            · exact (unhid HSA).txt l h
            · simp; omega⟩ : StrsOk (w7.setCell ⟨gg, an % ls.length, none⟩ (.string (SB (tx ++ [65])))) (some ⟨gg, 0, none⟩) (ls.set (an % ls.length) (tx ++ [65])))
          have hp3 := (ppanel_calls (ls.set (an % ls.length) (tx ++ [65])) (some ⟨gg, 0, none⟩) cap unit ground ink _ (unhid HSTR)).mono fun _ _ h => panR_both h
          rw [List.length_set] at hp3
          have HG2 := hid (fun h0 : panN (ls.set (an % ls.length) (tx ++ [65])) unit ground ink = 0 => (by rw [panF_yes h0]; exact ⟨unhid HMQ, by rw [List.length_set]; exact (unhid HHE).symm⟩ : sz ≤ (panF (ls.set (an % ls.length) (tx ++ [65])) unit ground ink).size ∧ (panF (ls.set (an % ls.length) (tx ++ [65])) unit ground ink).height = he))
          have HE2 := hid (panN_cases (ls.set (an % ls.length) (tx ++ [65])) unit ground ink)
          generalize panF (ls.set (an % ls.length) (tx ++ [65])) unit ground ink = g2 at *
          generalize panN (ls.set (an % ls.length) (tx ++ [65])) unit ground ink = er2 at *
          generalize w7.setCell ⟨gg, an % ls.length, none⟩ (.string (SB (tx ++ [65]))) = w8 at *
          have HP3 := hid hp3
          clear hp3 hb8 t0 f0
          obtain ⟨s0, s1, s2, s3⟩ := (unhid HS).cells
          go_wp2_with fail
          refine (unhid HP3).mono ?_
          rintro e w9 ⟨hb9, A3, c3, rfl, -⟩
          have HO := hid ((unhid HO).next hb9)
          have HF := hid ((unhid HF).below hb9)
          clear hb9 s0 s1 s2 s3 HP3 HS
          go_upto_region 21 with (fail)
          change Code.wp _ _ _ _ (w9.alloc (.cells #[.int .i64 g2.shape, .int .i64 g2.size, .int .i64 g2.height, .slice A3 g2.items.length c3] 25))
          have hb9 := below_alloc w9 (.cells #[.int .i64 g2.shape, .int .i64 g2.size, .int .i64 g2.height, .slice A3 g2.items.length c3] 25)
          have HO := hid ((unhid HO).next hb9)
          have HF := hid ((unhid HF).below hb9)
          have hN := heap_alloc_new w9 (.cells #[.int .i64 g2.shape, .int .i64 g2.size, .int .i64 g2.height, .slice A3 g2.items.length c3] 25)
          generalize w9.alloc (.cells #[.int .i64 g2.shape, .int .i64 g2.size, .int .i64 g2.height, .slice A3 g2.items.length c3] 25) = w10 at *
          generalize w9.heap.size = E3 at *
          obtain ⟨d0, d1, d2, d3⟩ := (unhid HF).cells
          dsimp only at d0 d1 d2 d3
          have j1 := cell_of_row _ E3 1 _ _ _ hN
          have j2 := cell_of_row _ E3 2 _ _ _ hN
          simp at j1 j2
          clear hb9 hN
          rcases unhid HE2 with h2 | h2 | h2
          · subst h2
            obtain ⟨y1, y2⟩ := (unhid HG2) rfl
            rw [y2] at j2
            go_wp2_with fail
            refine (unhid HO).first.mono ?_
            rintro e w11 ⟨rfl, hb2⟩
            have HB2 := hid hb2
            clear hb2
            go_wp2_with fail
            go_ret
            exact ⟨rfl, unhid HB2⟩
          · subst h2
            go_wp2_with fail
            refine (unhid HO).first.mono ?_
            rintro e w11 ⟨rfl, hb2⟩
            have HB2 := hid hb2
            clear hb2
            go_wp2_with fail
            go_ret
            exact ⟨rfl, unhid HB2⟩
          · subst h2
            go_wp2_with fail
            refine (unhid HO).first.mono ?_
            rintro e w11 ⟨rfl, hb2⟩
            have HB2 := hid hb2
            clear hb2
            go_wp2_with fail
            go_ret
            exact ⟨rfl, unhid HB2⟩

end Go.Proofs.YtmagidoodlkeoaaGreatDoor
