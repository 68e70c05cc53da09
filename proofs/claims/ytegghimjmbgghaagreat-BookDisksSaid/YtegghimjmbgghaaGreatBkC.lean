/-
  The ledger of a book: what it is; asks, grow, counts.
-/
import Derived.Test.YtegghimjmbgghaaGreatBkB
set_option linter.unusedSimpArgs false
set_option linter.unusedVariables false
namespace Go.Proofs.YtegghimjmbgghaaGreat
open Go.RowKit

/-- The cells of a ledger: the maps, the forks, the numbers up to which the records count. -/
def lgV (mv : Nat → Option Nat) (fs us : Nat → Int) : Array Value := #[.map (mv 0), .map (mv 1), .map (mv 2), .map (mv 3), .map (mv 4), .map (mv 5), .map (mv 6), .map (mv 7),
  .int .i64 (fs 0), .int .i64 (fs 1), .int .i64 (fs 2), .int .i64 (fs 3), .int .i64 (fs 4), .int .i64 (fs 5), .int .i64 (fs 6), .int .i64 (fs 7), .int .i64 (us 0), .int .i64 (us 1), .int .i64 (us 2), .int .i64 (us 3), .int .i64 (us 4), .int .i64 (us 5), .int .i64 (us 6), .int .i64 (us 7)]
def lgC (ms : Nat → Nat) (fs us : Nat → Int) : Array Value := lgV (fun t => some (ms t)) fs us
/-- The entries of the map of a tablet: each number that a record of the tablet bears, with one such record. -/
structure NumE (S : List Rc) (t : Nat) (E : List (Int × Value)) : Prop where
  is : ∀ n v, (n, v) ∈ E → ∃ r ∈ S, r.tb = t ∧ r.num = n ∧ v = rcV r
  all : ∀ r ∈ S, r.tb = t → r.num ∈ keysE E
  len : E.length ≤ S.length
structure LgAt (w : World) (B : Nat) (S : List Rc) (ms : Nat → Nat) (fs us : Nat → Int) : Prop where
  b : w.heap[B]? = some (.cells (lgC ms fs us) 140 (0, 0))
  m : ∀ t, t < 8 → ∃ E, GMap intK w (ms t) E ∧ NumE S t E
section
variable {w w' : World} {B : Nat} {S : List Rc} {ms : Nat → Nat} {fs us : Nat → Int}
theorem LgAt.lt (h : LgAt w B S ms fs us) : B < w.heap.size := (Array.getElem?_eq_some_iff.1 h.b).1
theorem LgAt.mlt (h : LgAt w B S ms fs us) {t : Nat} (ht : t < 8) : ms t < w.heap.size := by obtain ⟨E, h1, _⟩ := h.m t ht; exact h1.lt
theorem LgAt.mne (h : LgAt w B S ms fs us) {t : Nat} (ht : t < 8) : ms t ≠ B := by
  obtain ⟨E, h1, _⟩ := h.m t ht
  obtain ⟨es, c, hm⟩ := h1.isMap
  intro e
  rw [e, h.b] at hm
  cases hm
theorem LgAt.below (h : LgAt w B S ms fs us) (hb : Below w.heap.size w w') : LgAt w' B S ms fs us :=
  ⟨(hb.block B h.lt).trans h.b, fun t ht => by obtain ⟨E, h1, h2⟩ := h.m t ht; exact ⟨E, h1.below hb h1.lt, h2⟩⟩
theorem lg_cells (ms : Nat → Nat) (fs us : Nat → Int) {t : Nat} (ht : t < 8) : (lgC ms fs us)[t]? = some (.map (some (ms t))) ∧ (lgC ms fs us)[8 + t]? = some (.int .i64 (fs t)) ∧ (lgC ms fs us)[16 + t]? = some (.int .i64 (us t)) := by
  rcases lt8 ht with rfl | rfl | rfl | rfl | rfl | rfl | rfl | rfl <;> exact ⟨rfl, rfl, rfl⟩
theorem LgAt.map (h : LgAt w B S ms fs us) {t : Nat} (ht : t < 8) : w.cell? ⟨B, t, none⟩ = some (.map (some (ms t))) := (cell_of_row _ B t _ _ _ h.b).trans (lg_cells ms fs us ht).1
theorem LgAt.fork (h : LgAt w B S ms fs us) {t : Nat} (ht : t < 8) : w.cell? ⟨B, 8 + t, none⟩ = some (.int .i64 (fs t)) := (cell_of_row _ B (8 + t) _ _ _ h.b).trans (lg_cells ms fs us ht).2.1
theorem LgAt.upTo (h : LgAt w B S ms fs us) {t : Nat} (ht : t < 8) : w.cell? ⟨B, 16 + t, none⟩ = some (.int .i64 (us t)) := (cell_of_row _ B (16 + t) _ _ _ h.b).trans (lg_cells ms fs us ht).2.2
/-- A vector with another number for a tablet. -/
def updI (u : Nat → Int) (t : Nat) (n : Int) : Nat → Int := fun s => if s = t then n else u s
theorem lg_setU (ms : Nat → Nat) (fs us : Nat → Int) {t : Nat} (ht : t < 8) (n : Int) : (lgC ms fs us).setIfInBounds (16 + t) (.int .i64 n) = lgC ms fs (updI us t n) := by
  rcases lt8 ht with rfl | rfl | rfl | rfl | rfl | rfl | rfl | rfl <;> rfl
theorem lg_setF (ms : Nat → Nat) (fs us : Nat → Int) {t : Nat} (ht : t < 8) (n : Int) : (lgC ms fs us).setIfInBounds (8 + t) (.int .i64 n) = lgC ms (updI fs t n) us := by
  rcases lt8 ht with rfl | rfl | rfl | rfl | rfl | rfl | rfl | rfl <;> rfl
end
theorem setCell_grown (w : World) {B i : Nat} {cs : Array Value} {ty : TypeId} (h : w.heap[B]? = some (.cells cs ty (0, 0))) (v : Value) : w.grownBy (w.setCell ⟨B, i, none⟩ v) (some B) := by
  have hB : B < w.heap.size := (Array.getElem?_eq_some_iff.1 h).1
  refine ⟨rfl, rfl, rfl, ?_, fun k hk hne => heap_setCell_other _ _ _ _ (fun e => hne (by rw [e]))⟩
  simp [World.setCell]
theorem lg_grow {w : World} {B : Nat} {S : List Rc} {ms : Nat → Nat} {fs us : Nat → Int} (h : LgAt w B S ms fs us) {t : Nat} (ht : t < 8) (n : Int) : LgAt (w.setCell ⟨B, 16 + t, none⟩ (.int .i64 n)) B S ms fs (updI us t n) ∧ w.grownBy (w.setCell ⟨B, 16 + t, none⟩ (.int .i64 n)) (some B) := by
  have hg := setCell_grown w h.b (i := 16 + t) (.int .i64 n)
  refine ⟨⟨?_, fun s hs => ?_⟩, hg⟩
  · rw [heap_setCell_same _ _ _ _ _ _ h.b, lg_setU ms fs us ht n]
  · obtain ⟨E, h1, h2⟩ := h.m s hs
    exact ⟨E, h1.grown hg (fun e => h.mne hs (Option.some.inj e)), h2⟩
/-- Whether what a record has seen is there, by a ledger's numbers. -/
def asksB (fs us : Nat → Int) (r : Rc) : Bool := (List.range 8).all fun t => decide (min (r.sn t) (fs t - 1) ≤ us t)
theorem asks_no {fs us : Nat → Int} {r : Rc} {t : Nat} (ht : t < 8) (h : us t < min (r.sn t) (fs t - 1)) : asksB fs us r = false := by
  unfold asksB
  rw [List.all_eq_false]
  exact ⟨t, List.mem_range.2 ht, by simp; omega⟩
theorem asks_yes {fs us : Nat → Int} {r : Rc} (h : ∀ t, t < 8 → min (r.sn t) (fs t - 1) ≤ us t) : asksB fs us r = true := by
  unfold asksB
  rw [List.all_eq_true]
  exact fun t ht => decide_eq_true (h t (List.mem_range.1 ht))

set_option maxHeartbeats 4000000 in
set_option maxRecDepth 100000 in
theorem asks_calls (r : Rc) {B : Nat} {S : List Rc} {ms : Nat → Nat} {fs us : Nat → Int} (w : World) (h : LgAt w B S ms fs us) (hf : ∀ t, t < 8 → 1 ≤ fs t ∧ fs t ≤ 1000001) :
    Calls Tryz.prog 141 #[.pointer (some ⟨B, 0, none⟩), rcV r] w fun e w' => e = .returned (.bool (asksB fs us r)) ∧ Below w.heap.size w w' := by
  have hb0 := below_alloc w (.cells (rcA r) 82)
  have HB := hid hb0
  have HR := hid (RcAt.new w r)
  have HL := hid (h.below hb0)
  have HF := hid hf
  clear hb0 h hf
  show Calls Tryz.prog 141 #[.pointer (some ⟨B, 0, none⟩), .agg #[.int .i64 r.tab, .int .i64 r.num, .int .i64 r.hour, .int .i64 r.sign, .int .i64 r.fld, .int .i64 r.val, .int .i64 r.s0, .int .i64 r.s1, .int .i64 r.s2, .int .i64 r.s3, .int .i64 r.s4, .int .i64 r.s5, .int .i64 r.s6, .int .i64 r.s7]] w _
  go_enter Tryz.func141, Tryz.ntmps141
  go_upto_region 1 with (fail)
  change Code.wp _ _ _ _ (w.alloc (.cells (rcA r) 82))
  generalize w.alloc (.cells (rcA r) 82) = W at *
  obtain ⟨e0, e1, e2, e3, e4, e5, e6, e7⟩ := (unhid HR).seen8
  go_upto_region 2 with (fail)
  clear e0 e1 e2 e3 e4 e5 e6 e7
  go_loopw [9] (fun iv wr => ∃ k : Nat, k ≤ 8 ∧ iv = .int .i64 k ∧ (∀ t, t < k → min (r.sn t) (fs t - 1) ≤ us t) ∧ Below W.heap.size W wr) (fun iv _ => 8 - (intOf iv).toNat)
  case atStart => exact ⟨0, Nat.zero_le _, rfl, fun j h => absurd h (by omega), Below.refl _ _⟩
  case round =>
    obtain ⟨k, hk, rfl, hall, hbw⟩ := hrel
    have HALL := hid hall
    have HBW := hid hbw
    clear hall hbw
    by_cases hlt : k < 8
    · have hki : (k : Int) < 8 := by omega
      have ix := seen_index r hlt
      obtain ⟨f1, f2⟩ := (unhid HF) k hlt
      have HL2 := hid ((unhid HL).below (unhid HBW))
      have g1 : ∀ p : After wr, p.w.cell? ⟨B, 16 + k, none⟩ = some (.int .i64 (us k)) := After.cell (unhid HL2).lt ((unhid HL2).upTo hlt)
      have g2 : ∀ p : After wr, p.w.cell? ⟨B, 8 + k, none⟩ = some (.int .i64 (fs k)) := After.cell (unhid HL2).lt ((unhid HL2).fork hlt)
      have HNO := hid (asks_no (fs := fs) (us := us) (r := r) hlt)
      obtain ⟨x, hx⟩ : ∃ x, x = r.sn k := ⟨_, rfl⟩
      obtain ⟨f, hf⟩ : ∃ f, f = fs k := ⟨_, rfl⟩
      obtain ⟨u, hu⟩ : ∃ u, u = us k := ⟨_, rfl⟩
      have HK := hid (fun h : min x (f - 1) ≤ u => (show min (r.sn k) (fs k - 1) ≤ us k by rw [← hx, ← hf, ← hu]; exact h))
      rw [← hx] at ix HNO
      rw [← hf] at f1 f2 g2 HNO
      rw [← hu] at g1 HNO
      clear hx hf hu
      have w1 : IntKind.i64.wrap (f - 1) = f - 1 := IntWalk.i64_in _ (by omega)
      obtain ⟨y, hy⟩ : ∃ y, min x (f - 1) = y := ⟨_, rfl⟩
      have em : (if f - 1 < x then f - 1 else x) = y := by rw [← hy]; split <;> omega
      rw [hy] at HNO HK
      clear hy
      by_cases c : u < y
      · have HR := hid ((unhid HNO) c)
        have dc := decide_eq_true c
        clear c
        go_wp2_with fail
        (refine wp_region_below (by kernel_rfl) (by kernel_rfl) ?_; (repeat (go_big_quiet_step (first | fail))); refine wpQuiet_nil ?_; intro wq hw'; obtain ⟨⟨wq2, hbq⟩, hw''⟩ := hw'; dsimp only at hw''; subst hw'')
        have HBW := hid ((unhid HBW).trans (hbq.mono (unhid HBW).size))
        clear hbq ix g1 g2
        go_wp2_with fail
        go_ret
        exact ⟨retb (by rw [unhid HR]), (unhid HB).trans ((unhid HBW).mono (unhid HB).size)⟩
      · have HKK := hid ((unhid HK) (Int.not_lt.1 c))
        have dc := decide_eq_false c
        clear c
        go_wp2_with fail
        (refine wp_region_below (by kernel_rfl) (by kernel_rfl) ?_; (repeat (go_big_quiet_step (first | fail))); refine wpQuiet_nil ?_; intro wq hw'; obtain ⟨⟨wq2, hbq⟩, hw''⟩ := hw'; dsimp only at hw''; subst hw'')
        have HBW := hid ((unhid HBW).trans (hbq.mono (unhid HBW).size))
        clear hbq ix g1 g2
        go_wp2_with fail
        go_roundw
        case rel => exact ⟨k + 1, by omega, by go_num, fun i hi => by
          rcases Nat.lt_succ_iff_lt_or_eq.1 hi with h | rfl
          · exact (unhid HALL) i h
          · exact unhid HKK, unhid HBW⟩
        case measure => simp [intOf]; omega
    · obtain rfl : k = 8 := by omega
      have HR := hid (asks_yes (unhid HALL))
      go_wp2_with fail
      go_ret
      exact ⟨retb (by rw [unhid HR]), (unhid HB).trans ((unhid HBW).mono (unhid HB).size)⟩


/-! ### grow -/
theorem num_get {S : List Rc} {t : Nat} {E : List (Int × Value)} (h : NumE S t E) (n : Int) : (getE E n = none ∧ ∀ r ∈ S, r.tb = t → r.num ≠ n) ∨ ∃ r ∈ S, r.tb = t ∧ r.num = n ∧ getE E n = some (rcV r) := by
  cases hg : getE E n with
  | none => exact .inl ⟨rfl, fun r hr ht e => getE_none.1 hg (e ▸ h.all r hr ht)⟩
  | some v =>
    obtain ⟨r, h1, h2, h3, rfl⟩ := h.is n v (getE_some hg)
    exact .inr ⟨r, h1, h2, h3, rfl⟩
def rc0 : Rc := ⟨0, 0, 0, 0, 0, 0, 0, 0, 0, 0, 0, 0, 0, 0⟩
theorem zero_rc (w : World) : (zeroValue 82).run Tryz.prog w = .ok (rcV rc0) w := Tryz.zeroValue82 w
/-- 'r, there := m[n]' at a map of a tablet. -/
theorem num_look {w : World} {m t : Nat} {S : List Rc} {E : List (Int × Value)} (h : GMap intK w m E) (hE : NumE S t E) {n : Int} (hn : I64 n) :
    ∃ r b, (Instr.lookup 137 (.map (some m)) (.int .i64 n) true).run Tryz.prog w = .ok (.tuple #[.agg #[.int .i64 r.tab, .int .i64 r.num, .int .i64 r.hour, .int .i64 r.sign, .int .i64 r.fld, .int .i64 r.val, .int .i64 r.s0, .int .i64 r.s1, .int .i64 r.s2, .int .i64 r.s3, .int .i64 r.s4, .int .i64 r.s5, .int .i64 r.s6, .int .i64 r.s7], .bool b]) w ∧
      ((b = true ∧ r ∈ S ∧ r.tb = t ∧ r.num = n) ∨ (b = false ∧ ∀ q ∈ S, q.tb = t → q.num ≠ n)) := by
  have hl := GMap.look h true Tryz.underlying137 (zero_rc w) (a := n) hn
  rcases num_get hE n with ⟨h1, h2⟩ | ⟨r, h1, h2, h3, h4⟩
  · rw [h1] at hl
    exact ⟨rc0, false, hl, .inr ⟨rfl, h2⟩⟩
  · rw [h4] at hl
    exact ⟨r, true, hl, .inl ⟨rfl, h1, h2, h3⟩⟩

/-- What grow answers and leaves. -/
def GrowPost (w : World) (B : Nat) (S : List Rc) (ms : Nat → Nat) (us : Nat → Int) (t : Nat) (e : Ending) (w' : World) : Prop :=
  ((e = .returned (.bool false) ∧ ¬ Next S us t ∧ LgAt w' B S ms (frk S) us) ∨ (e = .returned (.bool true) ∧ Next S us t ∧ LgAt w' B S ms (frk S) (upS us t))) ∧ w.grownBy w' (some B)
theorem asks_iff {fs us : Nat → Int} {r : Rc} : asksB fs us r = true ↔ ∀ s : Nat, s < 8 → min (r.sn s) (fs s - 1) ≤ us s := by
  unfold asksB
  rw [List.all_eq_true]
  simp only [List.mem_range, decide_eq_true_eq]
theorem next_asks {S : List Rc} (hv : ∀ r ∈ S, rcB r = true) {us : Nat → Int} (hu : Up S us) {t : Nat} : Next S us t ↔ ∃ r ∈ S, r.tb = t ∧ r.num = us t + 1 ∧ us t + 1 < frk S t ∧ asksB (frk S) us r = true := by
  rw [next_iff hv hu]
  constructor
  · rintro ⟨r, h1, h2, h3, h4, h5⟩; exact ⟨r, h1, h2, h3, h4, asks_iff.2 h5⟩
  · rintro ⟨r, h1, h2, h3, h4, h5⟩; exact ⟨r, h1, h2, h3, h4, asks_iff.1 h5⟩
theorem upS_eq (us : Nat → Int) (t : Nat) : updI us t (us t + 1) = upS us t := by
  funext s
  unfold updI upS
  split
  · rename_i h; rw [h]
  · rfl
theorem frk_one {S : List Rc} (hv : ∀ r ∈ S, rcB r = true) {r q : Rc} (hr : r ∈ S) (hq : q ∈ S) (e1 : r.tb = q.tb) (e2 : r.num = q.num) (h : r.num < frk S r.tb) : r = q := by
  by_cases e : r = q
  · exact e
  · have := (frk_is hv r.tb).all r hr q hq rfl e1.symm e2 e
    omega

set_option maxHeartbeats 4000000 in
set_option maxRecDepth 100000 in
theorem grow_calls (t : Nat) (ht : t < 8) {B : Nat} {S : List Rc} {ms : Nat → Nat} {us : Nat → Int} (w : World) (hv : ∀ r ∈ S, rcB r = true) (h : LgAt w B S ms (frk S) us) (hU : Up S us) :
    Calls Tryz.prog 113 #[.pointer (some ⟨B, 0, none⟩), .int .i64 t] w fun e w' => GrowPost w B S ms us t e w' := by
  have hu : 0 ≤ us t ∧ us t ≤ 1000000 := ⟨hU.pos t, hU.bound hv ht⟩
  obtain ⟨E, hE1, hE2⟩ := h.m t ht
  obtain ⟨r, b1, hl, hr⟩ := num_look hE1 hE2 (n := us t + 1) (by unfold I64; omega)
  obtain ⟨f1, f2⟩ := frk_pos hv t
  have HL := hid h
  have HV := hid hv
  have HUP := hid hU
  have HR := hid hr
  have c0 := h.map ht
  have c1 := h.fork ht
  have c2 := h.upTo ht
  have hti : (t : Int) < 8 := by omega
  obtain ⟨u, hu1⟩ : ∃ u, u = us t := ⟨_, rfl⟩
  obtain ⟨f, hf1⟩ : ∃ f, f = frk S t := ⟨_, rfl⟩
  have HEQ := hid (⟨hu1, hf1⟩ : _ ∧ _)
  rw [← hu1] at hl c2 hu
  rw [← hf1] at c1 f1 f2
  have HU := hid hu
  have w1 : IntKind.i64.wrap (u + 1) = u + 1 := IntWalk.i64_in _ (by omega)
  have HT := hid ht
  clear h hr hE1 hE2 hu1 hf1 hv hU
  go_enter Tryz.func113, Tryz.ntmps113
  go_upto_region 3 with (fail)
  change Code.wp _ _ _ _ (w.alloc (.cells (rcA r) 82))
  have hb0 := below_alloc w (.cells (rcA r) 82)
  have HA := hid (RcAt.new w r)
  have HL := hid ((unhid HL).below hb0)
  have HB := hid hb0
  generalize w.alloc (.cells (rcA r) 82) = W at *
  clear hb0 hl c0 c1 c2 w1
  have c1 : W.cell? ⟨B, 8 + t, none⟩ = some (.int .i64 f) := by rw [(unhid HEQ).2]; exact (unhid HL).fork (unhid HT)
  cases b1 with
  | false =>
    have hno : ∀ q ∈ S, q.tb = t → q.num ≠ us t + 1 := (unhid HR).elim (fun h => by cases h.1) (fun h => h.2)
    have HP := hid (show GrowPost w B S ms us t (.returned (.bool false)) W from ⟨.inl ⟨rfl, fun hn => by
      obtain ⟨q, h1, h2, h3, _⟩ := hn
      exact hno q h1 h2 h3, unhid HL⟩, grown_of_below (unhid HB) _⟩)
    clear hno
    go_wp2_with fail
    go_ret
    exact unhid HP
  | true =>
    have hyes : r ∈ S ∧ r.tb = t ∧ r.num = us t + 1 := (unhid HR).elim (fun h => h.2) (fun h => by cases h.1)
    have HR2 := hid hyes
    clear hyes HR
    cases c : decide (u + 1 < f) with
    | false =>
      have c' : ¬ u + 1 < f := of_decide_eq_false c
      have dc : decide (f ≤ u + 1) = true := decide_eq_true (by omega)
      have HP := hid (show GrowPost w B S ms us t (.returned (.bool false)) W from ⟨.inl ⟨rfl, fun hn => by
        obtain ⟨q, h1, h2, h3, h4, _⟩ := (next_asks (unhid HV) (unhid HUP)).1 hn
        rw [← (unhid HEQ).1, ← (unhid HEQ).2] at h4
        exact c' h4, unhid HL⟩, grown_of_below (unhid HB) _⟩)
      clear c c'
      go_wp2_with fail
      go_ret
      exact unhid HP
    | true =>
      have c' : u + 1 < f := of_decide_eq_true c
      have dc : decide (f ≤ u + 1) = false := decide_eq_false (by omega)
      have HC := hid c'
      clear c c'
      obtain ⟨d0, d1, d2, d3, d4, d5⟩ := (unhid HA).cells
      obtain ⟨e0, e1, e2, e3, e4, e5, e6, e7⟩ := (unhid HA).seen8
      go_wp2_with fail
      refine (asks_calls r W (unhid HL) (fun t _ => frk_pos (unhid HV) t)).mono ?_
      rintro e w2 ⟨rfl, hb2⟩
      have HL := hid ((unhid HL).below hb2)
      have HB := hid ((unhid HB).trans (hb2.mono (unhid HB).size))
      clear hb2 d0 d1 d2 d3 d4 d5 e0 e1 e2 e3 e4 e5 e6 e7 c1
      cases ca : asksB (frk S) us r with
      | false =>
        have HP := hid (show GrowPost w B S ms us t (.returned (.bool false)) w2 from ⟨.inl ⟨rfl, fun hn => by
          obtain ⟨q, h1, h2, h3, h4, h5⟩ := (next_asks (unhid HV) (unhid HUP)).1 hn
          have hr := unhid HR2
          have : q = r := frk_one (unhid HV) h1 hr.1 (by rw [h2, hr.2.1]) (by rw [h3, hr.2.2]) (by rw [h3, h2]; exact h4)
          rw [this, ca] at h5
          exact Bool.noConfusion h5, unhid HL⟩, grown_of_below (unhid HB) _⟩)
        clear ca
        go_wp2_with fail
        go_ret
        exact unhid HP
      | true =>
        have HN := hid (show Next S us t from (next_asks (unhid HV) (unhid HUP)).2 ⟨r, (unhid HR2).1, (unhid HR2).2.1, (unhid HR2).2.2, by rw [← (unhid HEQ).1, ← (unhid HEQ).2]; exact unhid HC, ca⟩)
        have fz : w2.frozen? ⟨B, 16 + t, none⟩ = false := by simp [World.frozen?, (unhid HL).b]
        have cu : w2.cell? ⟨B, 16 + t, none⟩ = some (.int .i64 u) := by rw [(unhid HEQ).1]; exact (unhid HL).upTo (unhid HT)
        have hg := lg_grow (unhid HL) (unhid HT) (us t + 1)
        rw [upS_eq, ← (unhid HEQ).1] at hg
        have HP := hid (show GrowPost w B S ms us t (.returned (.bool true)) (w2.setCell ⟨B, 16 + t, none⟩ (.int .i64 (u + 1))) from ⟨.inr ⟨rfl, unhid HN, hg.1⟩, grown_then (unhid HB) hg.2⟩)
        clear ca hg
        go_wp2_with fail
        go_ret
        exact unhid HP

end Go.Proofs.YtegghimjmbgghaaGreat
