/-
  ValidSigns, of package rule and of its reference.
-/
import Derived.Test.YtmpngoejnmlmbaaGreatSpan
import Derived.Test.YtmpngoejnmlmbaaGreatSeen
import Derived.Test.YtmpngoejnmlmbaaGreatLine
set_option linter.unusedSimpArgs false
set_option linter.unusedVariables false
namespace Go.Proofs.YtmpngoejnmlmbaaGreat
open Go.RowKit

def signOk (len : Int) (s : Sg) : Bool :=
  decide (1 ≤ s.num ∧ s.num ≤ 1000000000) && decide (1 ≤ s.kind ∧ s.kind ≤ 8) && valuedB s.kind s.val && decide (0 ≤ s.chain ∧ s.chain ≤ len) && dirB s.dir && decide (1 ≤ s.rank ∧ s.rank ≤ 9) && hoursB s.up s.down && decide (s.cov.length ≤ 10) &&
    !(s.cov.any fun c => !hoursB c.1 c.2)

theorem hoursClosure (w : World) : SpanPred w 105 #[] (fun c => !hoursB c.1 c.2) := by
  refine ⟨fun args w => by simp [go_sem], fun s w' hbel => ?_⟩
  clear hbel
  go_enter Tryz.func105, Tryz.ntmps105
  go_wp2_with (go_at_call 103; refine (hours_calls _ _ _).mono ?_; rintro e w' ⟨rfl, rfl⟩)
  all_goals (go_ret; exact ⟨rfl, (by first | exact Below.refl _ _ | (repeat (first | exact below_alloc _ _ | exact Below.refl _ _ | assumption | apply below_drewN' | apply Below.drew | apply below_alloc')))⟩)

set_option maxHeartbeats 1000000 in
theorem validSign_calls (len : Int) (A : Option Addr) (n c : Nat) (s : Sg) (w : World) (hs : SgOk w s) :
    Calls Tryz.prog 70 #[.agg #[.int .i64 len, .slice A n c], .agg #[.int .i64 s.num, .int .i64 s.kind, .int .i64 s.val, .int .i64 s.chain, .int .i64 s.dir, .int .i64 s.rank, .int .i64 s.up, .int .i64 s.down, .slice s.cA s.cov.length s.cc]] w fun e w' =>
      e = .returned (.bool (signOk len s)) ∧ Below w.heap.size w w' := by
  obtain ⟨hn, hr, _⟩ := hs
  have HR := hid hr
  clear hr
  go_enter Tryz.func70, Tryz.ntmps70
  go_wp2_with (first | (go_at_call 50; refine (within_calls _ _ _ _).mono ?_; rintro e w' ⟨rfl, rfl⟩) | (go_at_call 102; refine (valued_calls _ _ _).mono ?_; rintro e w' ⟨rfl, rfl⟩) | (go_at_call 103; refine (hours_calls _ _ _).mono ?_; rintro e w' ⟨rfl, rfl⟩) | (go_at_call 78; refine (direction_calls _ _).mono ?_; rintro e w' ⟨rfl, rfl⟩))
  all_goals first
    | (go_ret; refine ⟨retb (iff_of_false (by simp) ?_), (by first | exact Below.refl _ _ | (repeat (first | exact below_alloc _ _ | exact Below.refl _ _ | assumption | apply below_drewN' | apply Below.drew | apply below_alloc')))⟩
       go_light
       intro h
       simp only [signOk, Bool.and_eq_true, decide_eq_true_eq] at h
       obtain ⟨⟨⟨⟨⟨⟨⟨⟨h1, h2⟩, h3⟩, h4⟩, h5⟩, h6⟩, h7⟩, h8⟩, h9⟩ := h
       first | omega | contradiction)
    | (refine (containsSpan_calls s.cA s.cov s.cc _ 105 #[] (fun c => !hoursB c.1 c.2) hn ((unhid HR).below (below_alloc' (below_alloc _ _) _)) (hoursClosure _)).mono ?_
       rintro e w1 ⟨rfl, hb⟩
       have hfin : signOk len s = !(s.cov.any fun c => !hoursB c.1 c.2) := by
         have h1 : 1 ≤ s.num ∧ s.num ≤ 1000000000 := by assumption
         have h2 : 1 ≤ s.kind ∧ s.kind ≤ 8 := by assumption
         have h3 : valuedB s.kind s.val = true := by assumption
         have h4 : 0 ≤ s.chain ∧ s.chain ≤ len := by assumption
         have h5 : dirB s.dir = true := by assumption
         have h6 : 1 ≤ s.rank ∧ s.rank ≤ 9 := by assumption
         have h7 : hoursB s.up s.down = true := by assumption
         have h8 : s.cov.length ≤ 10 := by omega
         simp [signOk, h1, h2, h3, h4, h5, h6, h7, h8]
       have Hfin := hid hfin
       clear hfin
       generalize (s.cov.any fun c => !hoursB c.1 c.2) = q at Hfin ⊢
       go_wp2_with fail
       go_ret
       exact ⟨by rw [unhid Hfin]; rfl, (below_alloc' (below_alloc _ _) _).trans (hb.mono (by simp; omega))⟩)

set_option maxHeartbeats 1000000 in
theorem numberSign_calls (s : Sg) (w : World) :
    Calls Tryz.prog 72 #[.agg #[.int .i64 s.num, .int .i64 s.kind, .int .i64 s.val, .int .i64 s.chain, .int .i64 s.dir, .int .i64 s.rank, .int .i64 s.up, .int .i64 s.down, .slice s.cA s.cov.length s.cc]] w fun e w' =>
      e = .returned (.int .i64 s.num) ∧ Below w.heap.size w w' := by
  go_enter Tryz.func72, Tryz.ntmps72
  go_wp2_with fail
  go_ret
  exact ⟨rfl, (by first | exact Below.refl _ _ | (repeat (first | exact below_alloc _ _ | exact Below.refl _ _ | assumption | apply below_drewN' | apply Below.drew | apply below_alloc')))⟩

set_option maxHeartbeats 1000000 in
theorem differentSign_calls (A : Option Addr) (l : List Sg) (c : Nat) (w : World) (hs : SgsOk w A l) :
    Calls Tryz.prog 71 #[.slice A l.length c, .func (.func 72) #[] #[]] w fun e w' =>
      e = .returned (.bool (decide (l.map (·.num)).Nodup)) ∧ Below w.heap.size w w' := by
  obtain ⟨hn, hr, hall⟩ := hs
  have HR := hid hr
  have HA := hid hall
  clear hr hall
  have hmm := @run_makeMap Tryz.prog
  go_enter Tryz.func71, Tryz.ntmps71
  go_wp2_with fail
  go_loopw [11] (fun i wr => ∃ k : Nat, k ≤ l.length ∧ i = .int .i64 k ∧ (Seen wr w.heap.size k ((l.take k).map (·.num)).reverse ∧ ((l.take k).map (·.num)).Nodup) ∧ Below w.heap.size w wr) (fun i _ => l.length - (intOf i).toNat)
  case atStart => exact ⟨0, Nat.zero_le _, rfl, ⟨by simpa using Seen.made w, by simp⟩, (by first | exact Below.refl _ _ | (repeat (first | exact below_alloc _ _ | exact Below.refl _ _ | assumption | apply below_drewN' | apply Below.drew | apply below_alloc')))⟩
  case round =>
    obtain ⟨k, hk, rfl, hseen, hbel⟩ := hrel
    have HS := hid hseen.1
    have HN := hid hseen.2
    clear hseen
    by_cases hlt : k < l.length
    · obtain ⟨b, off, rfl, hb, hc⟩ := (unhid HR) (signs_ne hlt)
      obtain ⟨c0, c1, c2, c3, c4, c5, c6, c7, c8⟩ := signs_cells (w := wr) (fun j u hu => (hbel.cell (p := ⟨b, off + j, none⟩) hb).trans (hc j u hu)) hlt
      clear hc
      have hI : I64 l[k].num := ((unhid HA) l[k] (List.getElem_mem hlt)).num
      generalize hx : l[k] = x at *
      have HX := hid hx
      clear hx
      go_wp2_with fail
      refine (numberSign_calls x _).mono ?_
      rintro e w1 ⟨rfl, hb1⟩
      have hs1 := (((unhid HS).below (below_alloc _ _)).below hb1)
      have hlook := hs1.look hI
      have d0 := hb1.cell (p := ⟨wr.heap.size, 0, none⟩) (by simp)
      have d1 := hb1.cell (p := ⟨wr.heap.size, 1, none⟩) (by simp)
      have d2 := hb1.cell (p := ⟨wr.heap.size, 2, none⟩) (by simp)
      have d3 := hb1.cell (p := ⟨wr.heap.size, 3, none⟩) (by simp)
      have d4 := hb1.cell (p := ⟨wr.heap.size, 4, none⟩) (by simp)
      have d5 := hb1.cell (p := ⟨wr.heap.size, 5, none⟩) (by simp)
      have d6 := hb1.cell (p := ⟨wr.heap.size, 6, none⟩) (by simp)
      have d7 := hb1.cell (p := ⟨wr.heap.size, 7, none⟩) (by simp)
      have d8 := hb1.cell (p := ⟨wr.heap.size, 8, none⟩) (by simp)
      simp [go_sem] at d0 d1 d2 d3 d4 d5 d6 d7 d8
      have Hs1 := hid hs1
      have Hb1 := hid hb1
      clear hs1 hb1
      by_cases hin : x.num ∈ ((l.take k).map (·.num)).reverse
      · rw [decide_eq_true hin] at hlook
        have Hin := hid hin
        clear hin
        go_wp2_with fail
        go_ret
        refine ⟨retb (iff_of_false (by simp) ?_), (below_alloc' hbel _).trans ((unhid Hb1).mono (by have := hbel.size; simp; omega))⟩
        rw [decide_eq_true_eq]
        exact nd_no (f := Sg.num) hlt (by rw [unhid HX]; exact unhid Hin)
      · rw [decide_eq_false hin] at hlook
        have Hin := hid hin
        clear hin
        go_wp2_with fail
        refine (numberSign_calls x _).mono ?_
        rintro e w2 ⟨rfl, hb2⟩
        have hs2 := (unhid Hs1).below hb2
        go_wp2_with (at_mapUpdate; refine wpList_seen rfl _ _ _ rfl w.heap.size k _ hs2 x.num hI (by unfold maxLen; omega) rfl rfl rfl ?_; intro w3 hs3 hg3)
        have hb3 : Below w.heap.size w w3 := ((((below_alloc' hbel _).trans ((unhid Hb1).mono (by have := hbel.size; simp; omega))).trans (hb2.mono (by have h1 := hbel.size; have h2 := (unhid Hb1).size; simp at h2; omega)))).grown hg3 (by have h1 := hbel.size; have h2 := (unhid Hb1).size; have h3 := hb2.size; simp at h2; omega) (by intro i hi; injection hi with hi; omega)
        go_roundw
        case rel => exact ⟨k + 1, by omega, by go_num, ⟨by rw [nd_rev Sg.num l hlt, unhid HX]; exact hs3, nd_next hlt (unhid HN) (by rw [unhid HX]; exact unhid Hin)⟩, hb3⟩
        case measure => simp [intOf]; omega
    · go_wp2_with fail
      go_ret
      refine ⟨retb (iff_of_true rfl ?_), hbel⟩
      have := unhid HN
      rw [List.take_of_length_le (by omega)] at this
      simpa using this

end Go.Proofs.YtmpngoejnmlmbaaGreat
