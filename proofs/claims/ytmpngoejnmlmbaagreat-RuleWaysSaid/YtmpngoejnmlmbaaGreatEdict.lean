/-
  Edicts: ValidEdicts, of package rule and of its reference.
-/
import Derived.Test.YtmpngoejnmlmbaaGreatSigns
set_option linter.unusedSimpArgs false
set_option linter.unusedVariables false
namespace Go.Proofs.YtmpngoejnmlmbaaGreat
open Go.RowKit

structure Ed where
  num : Int
  topic : Int
  val : Int
  dir : Int
  fr : Int
  to : Int
  st : Int
  en : Int
def edC (s : Ed) : List Value := [.int .i64 s.num, .int .i64 s.topic, .int .i64 s.val, .int .i64 s.dir, .int .i64 s.fr, .int .i64 s.to, .int .i64 s.st, .int .i64 s.en]
def edicts (l : List Ed) : List Value := l.flatMap edC
theorem edicts_ne {l : List Ed} {k : Nat} (h : k < l.length) : edicts l ≠ [] := flat_ne (f := edC) (K := 8) (fun _ => rfl) (by omega) h
theorem edicts_at {l : List Ed} {k : Nat} (h : k < l.length) (j : Nat) (hj : j < 8) : (edicts l)[k * 8 + j]? = (edC l[k])[j]? := flat_at (f := edC) (K := 8) (fun _ => rfl) l k j h hj
theorem edicts_cells {w : World} {b off : Nat} {l : List Ed} (h : ∀ j u, (edicts l)[j]? = some u → w.cell? ⟨b, off + j, none⟩ = some u) {k : Nat} (hk : k < l.length) :
    w.cell? ⟨b, off + k * 8, none⟩ = some (.int .i64 l[k].num) ∧ w.cell? ⟨b, off + k * 8 + 1, none⟩ = some (.int .i64 l[k].topic) ∧ w.cell? ⟨b, off + k * 8 + 2, none⟩ = some (.int .i64 l[k].val) ∧
    w.cell? ⟨b, off + k * 8 + 3, none⟩ = some (.int .i64 l[k].dir) ∧ w.cell? ⟨b, off + k * 8 + 4, none⟩ = some (.int .i64 l[k].fr) ∧ w.cell? ⟨b, off + k * 8 + 5, none⟩ = some (.int .i64 l[k].to) ∧
    w.cell? ⟨b, off + k * 8 + 6, none⟩ = some (.int .i64 l[k].st) ∧ w.cell? ⟨b, off + k * 8 + 7, none⟩ = some (.int .i64 l[k].en) :=
  ⟨h _ _ (edicts_at hk 0 (by omega)), h _ _ (edicts_at hk 1 (by omega)), h _ _ (edicts_at hk 2 (by omega)), h _ _ (edicts_at hk 3 (by omega)), h _ _ (edicts_at hk 4 (by omega)), h _ _ (edicts_at hk 5 (by omega)),
    h _ _ (edicts_at hk 6 (by omega)), h _ _ (edicts_at hk 7 (by omega))⟩

structure EdOk (s : Ed) : Prop where
  num : I64 s.num
  val : I64 s.val
/-- A slice of edicts. -/
structure EdsOk (w : World) (A : Option Addr) (l : List Ed) : Prop where
  n : l.length ≤ 3000000000000
  rd : Rd w A (edicts l)
  all : ∀ s ∈ l, EdOk s
theorem EdsOk.below {w w' : World} {A : Option Addr} {l : List Ed} (h : EdsOk w A l) (hb : Below w.heap.size w w') : EdsOk w' A l := ⟨h.n, h.rd.below hb, h.all⟩

def edTop (s : Ed) : Bool := (decide (s.topic = 1) && decide (10 ≤ s.val ∧ s.val ≤ 200)) || (decide (s.topic = 2) && decide (s.val = 1))
def edOk (len : Int) (s : Ed) : Bool :=
  decide (1 ≤ s.num ∧ s.num ≤ 1000000000) && dirB s.dir && decide (0 ≤ s.fr) && decide (s.fr < s.to) && decide (s.to ≤ len) && hoursB s.st s.en && edTop s
theorem edOk_iff {len : Int} {s : Ed} : edOk len s = true ↔ (1 ≤ s.num ∧ s.num ≤ 1000000000) ∧ dirB s.dir = true ∧ 0 ≤ s.fr ∧ s.fr < s.to ∧ s.to ≤ len ∧ hoursB s.st s.en = true ∧ ((s.topic = 1 ∧ 10 ≤ s.val ∧ s.val ≤ 200) ∨ (s.topic = 2 ∧ s.val = 1)) := by
  simp only [edOk, edTop, Bool.and_eq_true, Bool.or_eq_true, decide_eq_true_eq]
  exact ⟨fun ⟨⟨⟨⟨⟨⟨a, b⟩, c⟩, d⟩, e⟩, f⟩, g⟩ => ⟨a, b, c, d, e, f, g⟩, fun ⟨a, b, c, d, e, f, g⟩ => ⟨⟨⟨⟨⟨⟨a, b⟩, c⟩, d⟩, e⟩, f⟩, g⟩⟩

set_option maxHeartbeats 1000000 in
theorem validEdict_calls (len : Int) (A : Option Addr) (n c : Nat) (s : Ed) (w : World) :
    Calls Tryz.prog 108 #[.agg #[.int .i64 len, .slice A n c], .agg #[.int .i64 s.num, .int .i64 s.topic, .int .i64 s.val, .int .i64 s.dir, .int .i64 s.fr, .int .i64 s.to, .int .i64 s.st, .int .i64 s.en]] w fun e w' =>
      e = .returned (.bool (edOk len s)) ∧ Below w.heap.size w w' := by
  go_enter Tryz.func108, Tryz.ntmps108
  go_wp2_with (first | (go_at_call 50; refine (within_calls _ _ _ _).mono ?_; rintro e w' ⟨rfl, rfl⟩) | (go_at_call 103; refine (hours_calls _ _ _).mono ?_; rintro e w' ⟨rfl, rfl⟩) | (go_at_call 78; refine (direction_calls _ _).mono ?_; rintro e w' ⟨rfl, rfl⟩))
  all_goals
    go_ret
    refine ⟨retb ?_, (by first | exact Below.refl _ _ | (repeat (first | exact below_alloc _ _ | exact Below.refl _ _ | assumption | apply below_drewN' | apply Below.drew | apply below_alloc')))⟩
    rw [edOk_iff]
    go_light
    (try simp only [beq_iff_eq, beq_eq_false_iff_ne, ne_eq, bne_iff_ne, bne_eq_false_iff_eq, decide_eq_true_eq, decide_eq_false_iff_not, Bool.and_eq_true, Bool.or_eq_true, Bool.and_eq_false_iff, Bool.or_eq_false_iff, Bool.not_eq_true', Bool.not_eq_false', Bool.not_eq_true] at *)
    (try simp)
    (first | omega | (intros; omega) | grind)

set_option maxHeartbeats 1000000 in
theorem numberEdict_calls (s : Ed) (w : World) :
    Calls Tryz.prog 110 #[.agg #[.int .i64 s.num, .int .i64 s.topic, .int .i64 s.val, .int .i64 s.dir, .int .i64 s.fr, .int .i64 s.to, .int .i64 s.st, .int .i64 s.en]] w fun e w' =>
      e = .returned (.int .i64 s.num) ∧ Below w.heap.size w w' := by
  go_enter Tryz.func110, Tryz.ntmps110
  go_wp2_with fail
  go_ret
  exact ⟨rfl, (by first | exact Below.refl _ _ | (repeat (first | exact below_alloc _ _ | exact Below.refl _ _ | assumption | apply below_drewN' | apply Below.drew | apply below_alloc')))⟩

set_option maxHeartbeats 1000000 in
theorem differentEdict_calls (A : Option Addr) (l : List Ed) (c : Nat) (w : World) (hs : EdsOk w A l) :
    Calls Tryz.prog 109 #[.slice A l.length c, .func (.func 110) #[] #[]] w fun e w' =>
      e = .returned (.bool (decide (l.map (·.num)).Nodup)) ∧ Below w.heap.size w w' := by
  obtain ⟨hn, hr, hall⟩ := hs
  have HR := hid hr
  have HA := hid hall
  clear hr hall
  have hmm := @run_makeMap Tryz.prog
  go_enter Tryz.func109, Tryz.ntmps109
  go_wp2_with fail
  go_loopw [11] (fun i wr => ∃ k : Nat, k ≤ l.length ∧ i = .int .i64 k ∧ (Seen wr w.heap.size k ((l.take k).map (·.num)).reverse ∧ ((l.take k).map (·.num)).Nodup) ∧ Below w.heap.size w wr) (fun i _ => l.length - (intOf i).toNat)
  case atStart => exact ⟨0, Nat.zero_le _, rfl, ⟨by simpa using Seen.made w, by simp⟩, (by first | exact Below.refl _ _ | (repeat (first | exact below_alloc _ _ | exact Below.refl _ _ | assumption | apply below_drewN' | apply Below.drew | apply below_alloc')))⟩
  case round =>
    obtain ⟨k, hk, rfl, hseen, hbel⟩ := hrel
    have HS := hid hseen.1
    have HN := hid hseen.2
    clear hseen
    by_cases hlt : k < l.length
    · obtain ⟨b, off, rfl, hb, hc⟩ := (unhid HR) (edicts_ne hlt)
      obtain ⟨c0, c1, c2, c3, c4, c5, c6, c7⟩ := edicts_cells (w := wr) (fun j u hu => (hbel.cell (p := ⟨b, off + j, none⟩) hb).trans (hc j u hu)) hlt
      clear hc
      have hI : I64 l[k].num := ((unhid HA) l[k] (List.getElem_mem hlt)).num
      generalize hx : l[k] = x at *
      have HX := hid hx
      clear hx
      go_wp2_with fail
      refine (numberEdict_calls x _).mono ?_
      rintro e w1 ⟨rfl, hb1⟩
      have hs1 := (((unhid HS).below (below_alloc _ _)).below hb1)
      have hlook := hs1.look hI
      have d0 := hb1.cell (p := ⟨wr.heap.size, 0, none⟩) (by simp)
      have d1 := hb1.cell (p := ⟨wr.heap.size, 1, none⟩) (by simp)
      have d2 := hb1.cell (p := ⟨wr.heap.size, 2, none⟩) (by simp)
      have d3 := hb1.cell (p := ⟨wr.heap.size, 3, none⟩) (by simp)
      have d4 := hb1.cell (p := ⟨wr.heap.size, 4, none⟩) (by simp)
      have d5 := hb1.cell (p := ⟨wr.heap.size, 5, none⟩) (by simp)
      have d6 := hb1.cell (p := ⟨wr.heap.size, 6, none⟩) (by simp)
      have d7 := hb1.cell (p := ⟨wr.heap.size, 7, none⟩) (by simp)
      simp [go_sem] at d0 d1 d2 d3 d4 d5 d6 d7
      have Hs1 := hid hs1
      have Hb1 := hid hb1
      clear hs1 hb1
      by_cases hin : x.num ∈ ((l.take k).map (·.num)).reverse
      · rw [decide_eq_true hin] at hlook
        have Hin := hid hin
        clear hin
        go_wp2_with fail
        go_ret
        refine ⟨retb (iff_of_false (by simp) ?_), (below_alloc' hbel _).trans ((unhid Hb1).mono (by have := hbel.size; simp; omega))⟩
        rw [decide_eq_true_eq]
        exact nd_no (f := Ed.num) hlt (by rw [unhid HX]; exact unhid Hin)
      · rw [decide_eq_false hin] at hlook
        have Hin := hid hin
        clear hin
        go_wp2_with fail
        refine (numberEdict_calls x _).mono ?_
        rintro e w2 ⟨rfl, hb2⟩
        have hs2 := (unhid Hs1).below hb2
        go_wp2_with (at_mapUpdate; refine wpList_seen rfl _ _ _ rfl w.heap.size k _ hs2 x.num hI (by unfold maxLen; omega) rfl rfl rfl ?_; intro w3 hs3 hg3)
        have hb3 : Below w.heap.size w w3 := ((((below_alloc' hbel _).trans ((unhid Hb1).mono (by have := hbel.size; simp; omega))).trans (hb2.mono (by have h1 := hbel.size; have h2 := (unhid Hb1).size; simp at h2; omega)))).grown hg3 (by have h1 := hbel.size; have h2 := (unhid Hb1).size; have h3 := hb2.size; simp at h2; omega) (by intro i hi; injection hi with hi; omega)
        go_roundw
        case rel => exact ⟨k + 1, by omega, by go_num, ⟨by rw [nd_rev Ed.num l hlt, unhid HX]; exact hs3, nd_next hlt (unhid HN) (by rw [unhid HX]; exact unhid Hin)⟩, hb3⟩
        case measure => simp [intOf]; omega
    · go_wp2_with fail
      go_ret
      refine ⟨retb (iff_of_true rfl ?_), hbel⟩
      have := unhid HN
      rw [List.take_of_length_le (by omega)] at this
      simpa using this

noncomputable def edsB (len : Int) (js : List Int) (l : List Ed) : Bool := lineB len js && decide (l.length ≤ 50) && l.all (edOk len) && decide (l.map Ed.num).Nodup

set_option maxHeartbeats 1000000 in
theorem validEdicts_calls (len : Int) (A : Option Addr) (js : List Int) (c : Nat) (A2 : Option Addr) (l : List Ed) (c2 : Nat) (w : World) (hl : LnOk w A js) (hs : EdsOk w A2 l) :
    Calls Tryz.prog 79 #[.agg #[.int .i64 len, .slice A js.length c], .slice A2 l.length c2] w fun e w' =>
      e = .returned (.bool (edsB len js l)) ∧ Below w.heap.size w w' := by
  have HL := hid hl
  have HS := hid hs
  have hln := hl.n
  have hsn := hs.n
  clear hl hs
  go_enter Tryz.func79, Tryz.ntmps79
  go_wp2_with fail
  refine (validLine_calls len A js c _ hln ((unhid HL).rd.below (below_alloc _ _))).mono ?_
  rintro e w1 ⟨rfl, hb1⟩
  by_cases h1 : lineB len js = true
  · rw [h1]
    have H1 := hid h1
    clear h1
    by_cases h2 : l.length ≤ 50
    · have d0 := hb1.cell (p := ⟨w.heap.size, 0, none⟩) (by simp)
      have d1 := hb1.cell (p := ⟨w.heap.size, 1, none⟩) (by simp)
      simp [go_sem] at d0 d1
      have hbw1 : Below w.heap.size w w1 := (below_alloc w _).trans (hb1.mono (by simp))
      have hsz : w.heap.size + 1 ≤ w1.heap.size := by simpa using hb1.size
      clear hb1
      go_wp2_with fail
      go_loopw [17] (fun i wr => ∃ k : Nat, k ≤ l.length ∧ i = .int .i64 k ∧ Upto l k (fun s => edOk len s = true) ∧ Below w1.heap.size w1 wr) (fun i _ => l.length - (intOf i).toNat)
      case atStart => exact ⟨0, Nat.zero_le _, rfl, Upto.zero, Below.refl _ _⟩
      case round =>
        obtain ⟨k, hk, rfl, hup, hbel⟩ := hrel
        have hbw : Below w.heap.size w wr := hbw1.trans (hbel.mono hbw1.size)
        by_cases hlt : k < l.length
        · obtain ⟨b, off, rfl, hb, hc⟩ := (unhid HS).rd (edicts_ne hlt)
          obtain ⟨c0, c1, c2, c3, c4, c5, c6, c7⟩ := edicts_cells (w := wr) (fun j u hu => (hbw.cell (p := ⟨b, off + j, none⟩) hb).trans (hc j u hu)) hlt
          clear hc
          have e0 : wr.cell? ⟨w.heap.size, 0, none⟩ = _ := (hbel.cell (p := ⟨w.heap.size, 0, none⟩) hsz).trans d0
          have e1 : wr.cell? ⟨w.heap.size, 1, none⟩ = _ := (hbel.cell (p := ⟨w.heap.size, 1, none⟩) hsz).trans d1
          have hin : l[k] ∈ l := List.getElem_mem hlt
          generalize hx : l[k] = x at *
          have HX := hid hx
          clear hx
          have hwr : w.heap.size < wr.heap.size := by have := hbel.size; omega
          go_wp2_with fail
          refine (validEdict_calls len A js.length c x _ ).mono ?_
          rintro e w2 ⟨rfl, hb2⟩
          have hbel2 : Below w1.heap.size w1 w2 := (below_alloc' hbel _).trans (hb2.mono (by have := hbel.size; simp; omega))
          by_cases h3 : edOk len x = true
          · rw [h3]
            go_wp2_with fail
            go_roundw
            case rel => exact ⟨k + 1, by omega, by go_num, hup.next hlt (by rw [unhid HX]; exact h3), hbel2⟩
            case measure => simp [intOf]; omega
          · rw [Bool.not_eq_true] at h3
            rw [h3]
            go_wp2_with fail
            go_ret
            refine ⟨retb (iff_of_false (by simp) ?_), hbw1.trans (hbel2.mono hbw1.size)⟩
            intro h
            simp only [edsB, Bool.and_eq_true, List.all_eq_true] at h
            rw [h.1.2 x hin] at h3
            cases h3
        · go_wp2_with fail
          refine (differentEdict_calls A2 l c2 _ ((unhid HS).below hbw)).mono ?_
          rintro e w2 ⟨rfl, hb2⟩
          have hall := hup.all (by omega)
          have hfin : edsB len js l = decide (l.map Ed.num).Nodup := by
            have h3 : l.all (edOk len) = true := List.all_eq_true.2 hall
            simp [edsB, unhid H1, h2, h3]
          have Hfin := hid hfin
          clear hfin
          generalize decide (l.map Ed.num).Nodup = q at Hfin ⊢
          go_wp2_with fail
          go_ret
          exact ⟨by rw [unhid Hfin]; rfl, hbw.trans (hb2.mono hbw.size)⟩
    · go_wp2_with fail
      go_ret
      refine ⟨retb (iff_of_false (by simp) ?_), (below_alloc w _).trans (hb1.mono (by simp))⟩
      intro h
      simp only [edsB, Bool.and_eq_true, decide_eq_true_eq] at h
      exact h2 h.1.1.2
  · rw [Bool.not_eq_true] at h1
    rw [h1]
    go_wp2_with fail
    go_ret
    exact ⟨retb (iff_of_false (by simp) (by simp [edsB, h1])), (below_alloc w _).trans (hb1.mono (by simp))⟩


end Go.Proofs.YtmpngoejnmlmbaaGreat
