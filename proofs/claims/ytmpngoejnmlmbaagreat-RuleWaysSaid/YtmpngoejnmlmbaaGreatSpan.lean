/-
  Covers: slices.IndexFunc and slices.ContainsFunc over spans, Speaks of package rule and of its reference.
-/
import Derived.Test.YtmpngoejnmlmbaaGreatLeaf
set_option linter.unusedSimpArgs false
set_option linter.unusedVariables false
namespace Go.Proofs.YtmpngoejnmlmbaaGreat
open Go.RowKit

/-- A span's two cells. -/
def spanC (s : Int × Int) : List Value := [.int .i64 s.1, .int .i64 s.2]
def spans (l : List (Int × Int)) : List Value := l.flatMap spanC

theorem spans_ne {l : List (Int × Int)} {k : Nat} (h : k < l.length) : spans l ≠ [] := flat_ne (f := spanC) (K := 2) (fun _ => rfl) (by omega) h
theorem spans_0 {l : List (Int × Int)} {k : Nat} (h : k < l.length) : (spans l)[k * 2]? = some (.int .i64 l[k].1) := flat_at (f := spanC) (K := 2) (fun _ => rfl) l k 0 h (by omega)
theorem spans_1 {l : List (Int × Int)} {k : Nat} (h : k < l.length) : (spans l)[k * 2 + 1]? = some (.int .i64 l[k].2) := flat_at (f := spanC) (K := 2) (fun _ => rfl) l k 1 h (by omega)

/-- A predicate on spans that may lay blocks of its own. -/
def SpanPred (w : World) (g : Nat) (cb : Array Value) (p : Int × Int → Bool) : Prop :=
  (∀ args w, (callFunc g args).run Tryz.prog w = .ok (.enter g args) w) ∧
  ∀ (s : Int × Int) (w' : World), Below w.heap.size w w' → Calls Tryz.prog g (#[.agg #[.int .i64 s.1, .int .i64 s.2]] ++ cb) w' fun e w'' => e = .returned (.bool (p s)) ∧ Below w'.heap.size w' w''

set_option maxHeartbeats 400000 in
theorem indexSpan_calls (A : Option Addr) (l : List (Int × Int)) (c : Nat) (w : World) (g : Nat) (cb : Array Value) (p : Int × Int → Bool) (hn : l.length ≤ 20000000000000)
    (hr : Rd w A (spans l)) (hp : SpanPred w g cb p) :
    Calls Tryz.prog 130 #[.slice A l.length c, .func (.func g) #[] cb] w fun e w' =>
      (∃ i : Int, e = .returned (.int .i64 i) ∧ (l.any p = decide (0 ≤ i))) ∧ Below w.heap.size w w' := by
  obtain ⟨eg, hp⟩ := hp
  have HP := hid hp
  clear hp
  go_enter Tryz.func130, Tryz.ntmps130
  go_wp2_with fail
  go_loopw [8] (fun i wr => ∃ k : Nat, k ≤ l.length ∧ i = .int .i64 k ∧ (∀ j, j < k → ∀ s, l[j]? = some s → p s = false) ∧ Below w.heap.size w wr) (fun i _ => l.length - (intOf i).toNat)
  case atStart => exact ⟨0, Nat.zero_le _, rfl, fun j hj => absurd hj (by omega), Below.refl _ _⟩
  case round =>
    obtain ⟨k, hk, rfl, hall, hbel⟩ := hrel
    have Hall := hid hall
    clear hall
    by_cases hlt : k < l.length
    · obtain ⟨b, off, rfl, hb, hc⟩ := hr (spans_ne hlt)
      have hc0 : wr.cell? ⟨b, off + k * 2, none⟩ = some (.int .i64 l[k].1) := (hbel.cell (p := ⟨b, _, none⟩) hb).trans (hc _ _ (spans_0 hlt))
      have hc1 : wr.cell? ⟨b, off + k * 2 + 1, none⟩ = some (.int .i64 l[k].2) := (hbel.cell (p := ⟨b, _, none⟩) hb).trans (hc _ _ (spans_1 hlt))
      clear hc
      go_wp2_with fail
      refine ((unhid HP) l[k] wr hbel).mono ?_
      rintro e w1 ⟨rfl, hb1⟩
      by_cases hpk : p l[k] = true
      · rw [hpk]
        go_wp2_with fail
        go_ret
        have hany : l.any p = true := List.any_eq_true.2 ⟨l[k], List.getElem_mem hlt, hpk⟩
        exact ⟨⟨_, rfl, by rw [hany]; simp⟩, hbel.trans (hb1.mono hbel.size)⟩
      · rw [Bool.not_eq_true] at hpk
        rw [hpk]
        go_wp2_with fail
        go_roundw
        case rel =>
          refine ⟨k + 1, by omega, by go_num, fun j hj s hs => ?_, hbel.trans (hb1.mono hbel.size)⟩
          by_cases e : j = k
          · subst e; rw [List.getElem?_eq_getElem hlt] at hs; injection hs with hs; rw [← hs]; exact hpk
          · exact unhid Hall j (by omega) s hs
        case measure => simp [intOf]; omega
    · go_wp2_with fail
      go_ret
      have hany : l.any p = false := by
        rw [List.any_eq_false]; intro x hx
        obtain ⟨j, hj, rfl⟩ := List.mem_iff_getElem.1 hx
        rw [unhid Hall j (by omega) _ (List.getElem?_eq_getElem hj)]; simp
      exact ⟨⟨_, rfl, by rw [hany]; simp⟩, hbel⟩

theorem containsSpan_calls (A : Option Addr) (l : List (Int × Int)) (c : Nat) (w : World) (g : Nat) (cb : Array Value) (p : Int × Int → Bool) (hn : l.length ≤ 20000000000000)
    (hr : Rd w A (spans l)) (hp : SpanPred w g cb p) :
    Calls Tryz.prog 104 #[.slice A l.length c, .func (.func g) #[] cb] w fun e w' =>
      e = .returned (.bool (l.any p)) ∧ Below w.heap.size w w' := by
  go_enter Tryz.func104, Tryz.ntmps104
  go_wp2_with fail
  refine (indexSpan_calls A l c w g cb p hn hr hp).mono ?_
  rintro e w1 ⟨⟨i, rfl, hi⟩, hb⟩
  have Hi := hid hi
  clear hi
  go_wp2_with fail
  go_ret
  exact ⟨by rw [unhid Hi]; rfl, hb⟩

/-- A sign as it lies in memory: its numbers, and the slice of its covers with what it reads as. -/
structure Sg where
  num : Int
  kind : Int
  val : Int
  chain : Int
  dir : Int
  rank : Int
  up : Int
  down : Int
  cA : Option Addr
  cc : Nat
  cov : List (Int × Int)
def Sg.cells (s : Sg) : List Value := [.int .i64 s.num, .int .i64 s.kind, .int .i64 s.val, .int .i64 s.chain, .int .i64 s.dir, .int .i64 s.rank, .int .i64 s.up, .int .i64 s.down, .slice s.cA s.cov.length s.cc]
structure SgOk (w : World) (s : Sg) : Prop where
  n : s.cov.length ≤ 20000000000000
  rd : Rd w s.cA (spans s.cov)
  num : I64 s.num
theorem SgOk.below {w w' : World} {s : Sg} (h : SgOk w s) (hb : Below w.heap.size w w') : SgOk w' s := ⟨h.n, h.rd.below hb, h.num⟩

def spkB (s : Sg) (hour : Int) : Bool := decide (s.up ≤ hour) && decide (hour < s.down) && !(s.cov.any fun c => decide (c.1 ≤ hour) && decide (hour < c.2))

theorem speaksClosure (w : World) (h : Int) (b : Nat) (hb : b < w.heap.size) (hc : w.cell? ⟨b, 0, none⟩ = some (.int .i64 h)) :
    SpanPred w 117 #[.pointer (some ⟨b, 0, none⟩)] (fun c => decide (c.1 ≤ h) && decide (h < c.2)) := by
  refine ⟨fun args w => by simp [go_sem], fun s w' hbel => ?_⟩
  have hc' : w'.cell? ⟨b, 0, none⟩ = some (.int .i64 h) := (hbel.cell (p := ⟨b, 0, none⟩) hb).trans hc
  have hb' : b < w'.heap.size := Nat.lt_of_lt_of_le hb hbel.size
  clear hc hbel hb
  go_enter Tryz.func117, Tryz.ntmps117
  go_wp2_with fail
  all_goals (go_ret; refine ⟨retb ?_, (by first | exact Below.refl _ _ | (repeat (first | exact below_alloc _ _ | exact Below.refl _ _ | assumption | apply below_drewN' | apply Below.drew | apply below_alloc')))⟩; go_light; (try simp only [beq_iff_eq, beq_eq_false_iff_ne, ne_eq, bne_iff_ne, bne_eq_false_iff_eq, decide_eq_true_eq, decide_eq_false_iff_not, Bool.and_eq_true, Bool.or_eq_true, Bool.and_eq_false_iff, Bool.or_eq_false_iff, Bool.not_eq_true', Bool.not_eq_false', Bool.not_eq_true] at *); (try unfold spkB); (repeat' split) <;> (try simp) <;> (try omega))

/-- A sign by value. -/
def Sg.v (s : Sg) : Value := .agg #[.int .i64 s.num, .int .i64 s.kind, .int .i64 s.val, .int .i64 s.chain, .int .i64 s.dir, .int .i64 s.rank, .int .i64 s.up, .int .i64 s.down, .slice s.cA s.cov.length s.cc]

set_option maxHeartbeats 400000 in
theorem speaks_calls (s : Sg) (h : Int) (w : World) (hs : SgOk w s) :
    Calls Tryz.prog 88 #[.agg #[.int .i64 s.num, .int .i64 s.kind, .int .i64 s.val, .int .i64 s.chain, .int .i64 s.dir, .int .i64 s.rank, .int .i64 s.up, .int .i64 s.down, .slice s.cA s.cov.length s.cc], .int .i64 h] w fun e w' =>
      e = .returned (.bool (spkB s h)) ∧ Below w.heap.size w w' := by
  obtain ⟨hn, hr, _⟩ := hs
  have HR := hid hr
  clear hr
  by_cases hv : s.up ≤ h ∧ h < s.down
  · obtain ⟨hv1, hv2⟩ := hv
    go_enter Tryz.func88, Tryz.ntmps88
    go_wp2_with fail
    refine (containsSpan_calls s.cA s.cov s.cc _ 117 #[.pointer (some ⟨w.heap.size + 1, 0, none⟩)] (fun c => decide (c.1 ≤ h) && decide (h < c.2)) hn ((unhid HR).below (below_alloc' (below_alloc _ _) _)) (speaksClosure _ h _ (by simp) (by simp [go_sem]))).mono ?_
    rintro e w1 ⟨rfl, hb⟩
    generalize hany : (s.cov.any fun c => decide (c.1 ≤ h) && decide (h < c.2)) = q
    have Hany := hid hany
    clear hany
    go_wp2_with fail
    go_ret
    exact ⟨retb (by rw [spkB, unhid Hany]; simp; omega), (below_alloc' (below_alloc _ _) _).trans (hb.mono (by simp; omega))⟩
  · go_enter Tryz.func88, Tryz.ntmps88
    go_wp2_with fail
    all_goals (go_ret; refine ⟨retb ?_, (by first | exact Below.refl _ _ | (repeat (first | exact below_alloc _ _ | exact Below.refl _ _ | assumption | apply below_drewN' | apply Below.drew | apply below_alloc')))⟩; go_light; (try simp only [beq_iff_eq, beq_eq_false_iff_ne, ne_eq, bne_iff_ne, bne_eq_false_iff_eq, decide_eq_true_eq, decide_eq_false_iff_not, Bool.and_eq_true, Bool.or_eq_true, Bool.and_eq_false_iff, Bool.or_eq_false_iff, Bool.not_eq_true', Bool.not_eq_false', Bool.not_eq_true] at *); (try unfold spkB); (repeat' split) <;> (try simp) <;> (try omega))

set_option maxHeartbeats 400000 in
theorem rspeaks_calls (s : Sg) (h : Int) (w : World) (hs : SgOk w s) :
    Calls Tryz.prog 112 #[.agg #[.int .i64 s.num, .int .i64 s.kind, .int .i64 s.val, .int .i64 s.chain, .int .i64 s.dir, .int .i64 s.rank, .int .i64 s.up, .int .i64 s.down, .slice s.cA s.cov.length s.cc], .int .i64 h] w fun e w' =>
      e = .returned (.bool (spkB s h)) ∧ Below w.heap.size w w' := by
  obtain ⟨hn, hr, _⟩ := hs
  have HR := hid hr
  clear hr
  by_cases hv : s.up ≤ h ∧ h < s.down
  · obtain ⟨hv1, hv2⟩ := hv
    go_enter Tryz.func112, Tryz.ntmps112
    go_wp2_with fail
    go_loop [5] (fun i => ∃ k : Nat, k ≤ s.cov.length ∧ i = .int .i64 k ∧ Upto s.cov k (fun c => ¬ (c.1 ≤ h ∧ h < c.2))) (fun i => s.cov.length - (intOf i).toNat)
    case atStart => exact ⟨0, Nat.zero_le _, rfl, Upto.zero⟩
    case round =>
      obtain ⟨k, hk, rfl, hall⟩ := hrel
      by_cases hlt : k < s.cov.length
      · obtain ⟨b, off, hA, hb, hc⟩ := (unhid HR) (spans_ne hlt)
        rw [hA]
        have HA := hid hA
        clear hA
        have hc0 : w.cell? ⟨b, off + k * 2, none⟩ = some (.int .i64 s.cov[k].1) := hc _ _ (spans_0 hlt)
        have hc1 : w.cell? ⟨b, off + k * 2 + 1, none⟩ = some (.int .i64 s.cov[k].2) := hc _ _ (spans_1 hlt)
        clear hc
        go_wp2_with fail
        all_goals first
          | (go_ret; refine ⟨retb (iff_of_false (by simp) ?_), (by first | exact Below.refl _ _ | (repeat (first | exact below_alloc _ _ | exact Below.refl _ _ | assumption | apply below_drewN' | apply Below.drew | apply below_alloc')))⟩
             have hin : s.cov[k] ∈ s.cov := List.getElem_mem hlt
             simp only [spkB, Bool.and_eq_true, decide_eq_true_eq, Bool.not_eq_true', List.any_eq_false, not_and]
             intro _ hh; exact hh _ hin (by assumption) (by assumption))
          | (go_round
             case rel => exact ⟨k + 1, by omega, by go_num, hall.next hlt (by omega)⟩
             case measure => simp [intOf]; omega)
      · go_wp2_with fail
        go_ret
        refine ⟨retb (iff_of_true rfl ?_), (by first | exact Below.refl _ _ | (repeat (first | exact below_alloc _ _ | exact Below.refl _ _ | assumption | apply below_drewN' | apply Below.drew | apply below_alloc')))⟩
        have hh := hall.all (by omega)
        simp only [spkB, Bool.and_eq_true, decide_eq_true_eq, Bool.not_eq_true', List.any_eq_false, not_and]
        exact ⟨⟨hv1, hv2⟩, fun x hx h1 h2 => hh x hx ⟨h1, h2⟩⟩
  · go_enter Tryz.func112, Tryz.ntmps112
    go_wp2_with fail
    all_goals (go_ret; refine ⟨retb ?_, (by first | exact Below.refl _ _ | (repeat (first | exact below_alloc _ _ | exact Below.refl _ _ | assumption | apply below_drewN' | apply Below.drew | apply below_alloc')))⟩; go_light; (try simp only [beq_iff_eq, beq_eq_false_iff_ne, ne_eq, bne_iff_ne, bne_eq_false_iff_eq, decide_eq_true_eq, decide_eq_false_iff_not, Bool.and_eq_true, Bool.or_eq_true, Bool.and_eq_false_iff, Bool.or_eq_false_iff, Bool.not_eq_true', Bool.not_eq_false', Bool.not_eq_true] at *); (try unfold spkB); (repeat' split) <;> (try simp) <;> (try omega))

def sgC (s : Sg) : List Value := [.int .i64 s.num, .int .i64 s.kind, .int .i64 s.val, .int .i64 s.chain, .int .i64 s.dir, .int .i64 s.rank, .int .i64 s.up, .int .i64 s.down, .slice s.cA s.cov.length s.cc]
def signs (l : List Sg) : List Value := l.flatMap sgC
theorem signs_ne {l : List Sg} {k : Nat} (h : k < l.length) : signs l ≠ [] := flat_ne (f := sgC) (K := 9) (fun _ => rfl) (by omega) h
theorem signs_at {l : List Sg} {k : Nat} (h : k < l.length) (j : Nat) (hj : j < 9) : (signs l)[k * 9 + j]? = (sgC l[k])[j]? := flat_at (f := sgC) (K := 9) (fun _ => rfl) l k j h hj
theorem signs_cells {w : World} {b off : Nat} {l : List Sg} (h : ∀ j u, (signs l)[j]? = some u → w.cell? ⟨b, off + j, none⟩ = some u) {k : Nat} (hk : k < l.length) :
    w.cell? ⟨b, off + k * 9, none⟩ = some (.int .i64 l[k].num) ∧ w.cell? ⟨b, off + k * 9 + 1, none⟩ = some (.int .i64 l[k].kind) ∧ w.cell? ⟨b, off + k * 9 + 2, none⟩ = some (.int .i64 l[k].val) ∧
    w.cell? ⟨b, off + k * 9 + 3, none⟩ = some (.int .i64 l[k].chain) ∧ w.cell? ⟨b, off + k * 9 + 4, none⟩ = some (.int .i64 l[k].dir) ∧ w.cell? ⟨b, off + k * 9 + 5, none⟩ = some (.int .i64 l[k].rank) ∧
    w.cell? ⟨b, off + k * 9 + 6, none⟩ = some (.int .i64 l[k].up) ∧ w.cell? ⟨b, off + k * 9 + 7, none⟩ = some (.int .i64 l[k].down) ∧ w.cell? ⟨b, off + k * 9 + 8, none⟩ = some (.slice l[k].cA l[k].cov.length l[k].cc) :=
  ⟨h _ _ (signs_at hk 0 (by omega)), h _ _ (signs_at hk 1 (by omega)), h _ _ (signs_at hk 2 (by omega)), h _ _ (signs_at hk 3 (by omega)), h _ _ (signs_at hk 4 (by omega)), h _ _ (signs_at hk 5 (by omega)),
    h _ _ (signs_at hk 6 (by omega)), h _ _ (signs_at hk 7 (by omega)), h _ _ (signs_at hk 8 (by omega))⟩

/-- A slice of signs, with all that it leads to. -/
structure SgsOk (w : World) (A : Option Addr) (l : List Sg) : Prop where
  n : l.length ≤ 3000000000000
  rd : Rd w A (signs l)
  all : ∀ s ∈ l, SgOk w s
theorem SgsOk.below {w w' : World} {A : Option Addr} {l : List Sg} (h : SgsOk w A l) (hb : Below w.heap.size w w') : SgsOk w' A l := ⟨h.n, h.rd.below hb, fun s hs => (h.all s hs).below hb⟩

end Go.Proofs.YtmpngoejnmlmbaaGreat
