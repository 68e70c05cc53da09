/-
  Records and what counts in a book. No program in sight.
-/
import Init
set_option linter.unusedSimpArgs false
set_option linter.unusedVariables false
namespace Go.Proofs.YtegghimjmbgghaaGreat

/-- A record. -/
structure Rc where
  tab : Int
  num : Int
  hour : Int
  sign : Int
  fld : Int
  val : Int
  s0 : Int
  s1 : Int
  s2 : Int
  s3 : Int
  s4 : Int
  s5 : Int
  s6 : Int
  s7 : Int
deriving DecidableEq

/-- What its writer had seen of a tablet (counted from 0). -/
def Rc.sn (r : Rc) (t : Nat) : Int := [r.s0, r.s1, r.s2, r.s3, r.s4, r.s5, r.s6, r.s7].getD t 0
/-- Its tablet, counted from 0. -/
def Rc.tb (r : Rc) : Nat := (r.tab - 1).toNat
/-- Its fields in their order. -/
def Rc.flds (r : Rc) : List Int := [r.tab, r.num, r.hour, r.sign, r.fld, r.val, r.s0, r.s1, r.s2, r.s3, r.s4, r.s5, r.s6, r.s7]
theorem flds_inj {r q : Rc} (h : r.flds = q.flds) : r = q := by
  cases r; cases q
  simp only [Rc.flds, List.cons.injEq] at h
  simp only [Rc.mk.injEq]
  exact ⟨h.1, h.2.1, h.2.2.1, h.2.2.2.1, h.2.2.2.2.1, h.2.2.2.2.2.1, h.2.2.2.2.2.2.1, h.2.2.2.2.2.2.2.1, h.2.2.2.2.2.2.2.2.1, h.2.2.2.2.2.2.2.2.2.1, h.2.2.2.2.2.2.2.2.2.2.1, h.2.2.2.2.2.2.2.2.2.2.2.1, h.2.2.2.2.2.2.2.2.2.2.2.2.1, h.2.2.2.2.2.2.2.2.2.2.2.2.2.1⟩

/-- A number is from low to high. -/
def btw (a n b : Int) : Bool := decide (a ≤ n ∧ n ≤ b)
/-- All that was seen is a number. -/
def seenB (r : Rc) : Bool := (List.range 8).all fun t => btw 0 (r.sn t) 1000000
/-- A valid record. -/
def rcB (r : Rc) : Bool :=
  btw 1 r.tab 8 && btw 1 r.num 1000000 && btw 0 r.hour 10000000 && btw 1 r.sign 1000000000 && btw 1 r.fld 6 && btw (-1099511627776) r.val 1099511627776 &&
    seenB r && decide (r.sn r.tb = r.num - 1)
/-- The writer of q had seen r. -/
def befB (r q : Rc) : Bool := btw 1 r.tab 8 && decide (r.num ≤ q.sn r.tb)

structure RcOk (r : Rc) : Prop where
  tab : 1 ≤ r.tab ∧ r.tab ≤ 8
  num : 1 ≤ r.num ∧ r.num ≤ 1000000
  hour : 0 ≤ r.hour ∧ r.hour ≤ 10000000
  sign : 1 ≤ r.sign ∧ r.sign ≤ 1000000000
  fld : 1 ≤ r.fld ∧ r.fld ≤ 6
  val : -1099511627776 ≤ r.val ∧ r.val ≤ 1099511627776
  seen : ∀ t, t < 8 → 0 ≤ r.sn t ∧ r.sn t ≤ 1000000
  own : r.sn r.tb = r.num - 1
theorem rc_ok {r : Rc} (h : rcB r = true) : RcOk r := by
  simp only [rcB, btw, seenB, Bool.and_eq_true, decide_eq_true_eq, List.all_eq_true, List.mem_range] at h
  obtain ⟨⟨⟨⟨⟨⟨⟨h1, h2⟩, h3⟩, h4⟩, h5⟩, h6⟩, h7⟩, h8⟩ := h
  exact ⟨h1, h2, h3, h4, h5, h6, h7, h8⟩
theorem rc_of {r : Rc} (h : RcOk r) : rcB r = true := by
  simp only [rcB, btw, seenB, Bool.and_eq_true, decide_eq_true_eq, List.all_eq_true, List.mem_range]
  exact ⟨⟨⟨⟨⟨⟨⟨h.tab, h.num⟩, h.hour⟩, h.sign⟩, h.fld⟩, h.val⟩, h.seen⟩, h.own⟩
theorem RcOk.tb {r : Rc} (h : RcOk r) : r.tb < 8 ∧ (r.tb : Int) = r.tab - 1 := by
  have := h.tab
  unfold Rc.tb
  omega
/-- A valid record had not seen itself. -/
theorem bef_self {r : Rc} (h : rcB r = true) : befB r r = false := by
  have o := rc_ok h
  simp only [befB, btw, o.own, Bool.and_eq_false_iff, decide_eq_false_iff_not]
  exact .inr (by omega)

/-! ### What counts -/
/-- No two records of the tablet share a number up to n. -/
def Straight (S : List Rc) (t : Nat) (n : Int) : Prop := ∀ r ∈ S, ∀ q ∈ S, r.tb = t → q.tb = t → r.num = q.num → r.num ≤ n → r = q
/-- A record counts: its tablet is straight up to it, and all that it asks for is there and counts. -/
inductive Cnt (S : List Rc) : Rc → Prop
  | mk (r : Rc) (hr : r ∈ S) (hs : Straight S r.tb r.num)
      (ha : ∀ s : Nat, s < 8 → ∀ n : Int, 1 ≤ n → n ≤ r.sn s → Straight S s n → ∃ q, q ∈ S ∧ q.tb = s ∧ q.num = n)
      (hc : ∀ q ∈ S, q.tb < 8 → 1 ≤ q.num → q.num ≤ r.sn q.tb → Straight S q.tb q.num → Cnt S q) : Cnt S r
theorem Cnt.mem {S : List Rc} {r : Rc} (h : Cnt S r) : r ∈ S := by cases h; assumption
theorem Cnt.straight {S : List Rc} {r : Rc} (h : Cnt S r) : Straight S r.tb r.num := by cases h; assumption

/-- A vector of numbers, one for each tablet, that is reached by steps: of each tablet the records 1 to u t count. -/
structure Up (S : List Rc) (u : Nat → Int) : Prop where
  pos : ∀ t, 0 ≤ u t
  cnt : ∀ t, t < 8 → ∀ n, 1 ≤ n → n ≤ u t → ∃ r, r.tb = t ∧ r.num = n ∧ Cnt S r
/-- The next record of a tablet may count. -/
def Next (S : List Rc) (u : Nat → Int) (t : Nat) : Prop :=
  ∃ r ∈ S, r.tb = t ∧ r.num = u t + 1 ∧ Straight S t (u t + 1) ∧ ∀ s : Nat, s < 8 → ∀ n : Int, 1 ≤ n → n ≤ r.sn s → Straight S s n → n ≤ u s
/-- No tablet has a next one. -/
def Shut (S : List Rc) (u : Nat → Int) : Prop := ∀ t, t < 8 → ¬ Next S u t
theorem up_zero (S : List Rc) : Up S (fun _ => 0) := ⟨fun _ => Int.le_refl _, fun t _ n h1 h2 => by omega⟩
/-- A vector with one more for a tablet. -/
def upS (u : Nat → Int) (t : Nat) : Nat → Int := fun s => if s = t then u s + 1 else u s
/-- A record that asks for nothing more than is reached counts. -/
theorem Up.cnt_next {S : List Rc} {u : Nat → Int} (h : Up S u) {r : Rc} (hr : r ∈ S) (hs : Straight S r.tb r.num)
    (ha : ∀ s : Nat, s < 8 → ∀ n : Int, 1 ≤ n → n ≤ r.sn s → Straight S s n → n ≤ u s) : Cnt S r := by
  refine .mk r hr hs (fun s h1 n h3 h4 h5 => ?_) (fun q hq h1 h3 h4 h5 => ?_)
  · obtain ⟨q, e3, e4, hc⟩ := h.cnt s h1 n h3 (ha s h1 n h3 h4 h5)
    exact ⟨q, hc.mem, e3, e4⟩
  · obtain ⟨q2, e3, e4, hc⟩ := h.cnt q.tb h1 q.num h3 (ha q.tb h1 q.num h3 h4 h5)
    have : q = q2 := h5 q hq q2 hc.mem rfl e3 e4.symm (Int.le_refl _)
    rw [this]
    exact hc
/-- A step keeps it. -/
theorem Up.step {S : List Rc} {u : Nat → Int} (h : Up S u) {t : Nat} (hn : Next S u t) : Up S (upS u t) := by
  obtain ⟨r, hr, e1, e2, hs, ha⟩ := hn
  have hrc : Cnt S r := h.cnt_next hr (by rw [e1, e2]; exact hs) ha
  refine ⟨fun s => ?_, fun s h1 n h3 h4 => ?_⟩
  · have := h.pos s
    unfold upS
    split <;> omega
  · unfold upS at h4
    by_cases e : s = t
    · subst e
      rw [if_pos rfl] at h4
      by_cases hlast : n = u s + 1
      · exact ⟨r, e1, by rw [e2, hlast], hrc⟩
      · exact h.cnt s h1 n h3 (by omega)
    · rw [if_neg e] at h4
      exact h.cnt s h1 n h3 h4
/-- Behind the last step a record counts only if its number is reached. -/
theorem cnt_le {S : List Rc} (hv : ∀ r ∈ S, rcB r = true) {u : Nat → Int} (h : Up S u) (hs : Shut S u) {r : Rc} : Cnt S r → r.num ≤ u r.tb := by
  intro hc
  induction hc with
  | mk r hr hst ha hcs ih =>
    have o := rc_ok (hv r hr)
    rcases Int.lt_or_le (u r.tb) r.num with hlt | hle
    · exfalso
      have hall : ∀ s : Nat, s < 8 → ∀ n : Int, 1 ≤ n → n ≤ r.sn s → Straight S s n → n ≤ u s := by
        intro s h1 n h3 h4 h5
        obtain ⟨q, hq, e1, e2⟩ := ha s h1 n h3 h4 h5
        have := ih q hq (by omega) (by omega) (by rw [e1, e2]; exact h4) (by rw [e1, e2]; exact h5)
        rw [e1, e2] at this
        exact this
      have hprev : r.num - 1 ≤ u r.tb := by
        by_cases h0 : r.num = 1
        · have := h.pos r.tb; omega
        · exact hall r.tb o.tb.1 (r.num - 1) (by have := o.num; omega) (by rw [o.own]; exact Int.le_refl _) (fun a ha b hb e1 e2 e3 e4 => hst a ha b hb e1 e2 e3 (by omega))
      exact hs r.tb o.tb.1 ⟨r, hr, rfl, by omega, by rw [show u r.tb + 1 = r.num by omega]; exact hst, hall⟩
    · exact hle
/-- What is reached counts. -/
theorem cnt_of {S : List Rc} {u : Nat → Int} (h : Up S u) {r : Rc} (hr : r ∈ S) (ht : r.tb < 8) (h1 : 1 ≤ r.num) (hle : r.num ≤ u r.tb) : Cnt S r := by
  obtain ⟨q, e1, e2, hc⟩ := h.cnt r.tb ht r.num h1 hle
  have : q = r := hc.straight q hc.mem r hr rfl e1.symm e2 (Int.le_refl _)
  rw [← this]
  exact hc
/-- Two vectors behind the last step agree. -/
theorem up_eq {S : List Rc} (hv : ∀ r ∈ S, rcB r = true) {u v : Nat → Int} (hu : Up S u) (su : Shut S u) (hw : Up S v) (sv : Shut S v) {t : Nat} (ht : t < 8) : u t = v t := by
  have one : ∀ {a b : Nat → Int}, Up S a → Up S b → Shut S b → a t ≤ b t := by
    intro a b ha hb sb
    rcases Int.lt_or_le (b t) (a t) with h | h
    · exfalso
      have hb0 := hb.pos t
      obtain ⟨r, e1, e2, hc⟩ := ha.cnt t ht (a t) (by omega) (Int.le_refl _)
      have := cnt_le hv hb sb hc
      rw [e1, e2] at this
      omega
    · exact h
  exact Int.le_antisymm (one hu hw sv) (one hw hu su)
/-- No vector passes the greatest number. -/
theorem Up.bound {S : List Rc} (hv : ∀ r ∈ S, rcB r = true) {u : Nat → Int} (h : Up S u) {t : Nat} (ht : t < 8) : u t ≤ 1000000 := by
  rcases Int.lt_or_le 0 (u t) with h0 | h0
  · obtain ⟨r, _, e2, hc⟩ := h.cnt t ht (u t) (by omega) (Int.le_refl _)
    have := (rc_ok (hv r hc.mem)).num
    omega
  · omega

/-! ### Forks -/
/-- f is the least number at which tablet t is forked, or 1000001. -/
structure IsFrk (S : List Rc) (t : Nat) (f : Int) : Prop where
  le : f ≤ 1000001
  all : ∀ r ∈ S, ∀ q ∈ S, r.tb = t → q.tb = t → r.num = q.num → r ≠ q → f ≤ r.num
  is : f ≤ 1000000 → ∃ r ∈ S, ∃ q ∈ S, r.tb = t ∧ q.tb = t ∧ r.num = f ∧ q.num = f ∧ r ≠ q
theorem IsFrk.eq {S : List Rc} {t : Nat} {f g : Int} (hf : IsFrk S t f) (hg : IsFrk S t g) : f = g := by
  have one : ∀ {a b : Int}, IsFrk S t a → IsFrk S t b → a ≤ b := by
    intro a b ha hb
    rcases Int.lt_or_le b a with h | h
    · exfalso
      obtain ⟨r, hr, q, hq, e1, e2, e3, e4, hne⟩ := hb.is (by have := ha.le; omega)
      have := ha.all r hr q hq e1 e2 (by rw [e3, e4]) hne
      omega
    · exact h
  exact Int.le_antisymm (one hf hg) (one hg hf)
theorem IsFrk.straight {S : List Rc} (hv : ∀ r ∈ S, rcB r = true) {t : Nat} {f : Int} (h : IsFrk S t f) {n : Int} : (n ≤ 1000000) → (Straight S t n ↔ n < f) := by
  intro hn
  constructor
  · intro hs
    rcases Int.lt_or_le n f with h1 | h1
    · exact h1
    · exfalso
      obtain ⟨r, hr, q, hq, e1, e2, e3, e4, hne⟩ := h.is (by omega)
      exact hne (hs r hr q hq e1 e2 (by rw [e3, e4]) (by omega))
  · intro hlt r hr q hq e1 e2 e3 e4
    by_cases e : r = q
    · exact e
    · have := h.all r hr q hq e1 e2 e3 e
      omega
/-- The numbers at which a tablet is forked. -/
def frkL (S : List Rc) (t : Nat) : List Int := (S.filter fun r => decide (r.tb = t) && S.any fun q => decide (q.tb = t ∧ q.num = r.num ∧ q ≠ r)).map Rc.num
/-- The fork of a tablet. -/
def frk (S : List Rc) (t : Nat) : Int := (frkL S t).foldl min 1000001
theorem foldl_min : ∀ (l : List Int) (a : Int), l.foldl min a ≤ a ∧ (∀ x ∈ l, l.foldl min a ≤ x) ∧ (l.foldl min a = a ∨ l.foldl min a ∈ l)
  | [], a => by simp
  | b :: l, a => by
    obtain ⟨h1, h2, h3⟩ := foldl_min l (min a b)
    simp only [List.foldl_cons]
    refine ⟨by omega, fun x hx => ?_, ?_⟩
    · rcases List.mem_cons.1 hx with rfl | hx
      · omega
      · exact h2 x hx
    · rcases h3 with h3 | h3
      · rw [h3]
        rcases Int.le_total a b with h | h
        · exact .inl (Int.min_eq_left h)
        · exact .inr (by rw [Int.min_eq_right h]; exact List.mem_cons_self)
      · exact .inr (List.mem_cons_of_mem _ h3)
theorem frk_is {S : List Rc} (hv : ∀ r ∈ S, rcB r = true) (t : Nat) : IsFrk S t (frk S t) := by
  obtain ⟨h1, h2, h3⟩ := foldl_min (frkL S t) 1000001
  refine ⟨h1, fun r hr q hq e1 e2 e3 hne => h2 _ ?_, fun hle => ?_⟩
  · refine List.mem_map.2 ⟨r, List.mem_filter.2 ⟨hr, ?_⟩, rfl⟩
    simp only [Bool.and_eq_true, decide_eq_true_eq, List.any_eq_true]
    exact ⟨e1, q, hq, e2, e3.symm, fun e => hne e.symm⟩
  · rcases h3 with h3 | h3
    · unfold frk at hle; omega
    · obtain ⟨r, hr, e⟩ := List.mem_map.1 h3
      obtain ⟨hr1, hr2⟩ := List.mem_filter.1 hr
      simp only [Bool.and_eq_true, decide_eq_true_eq, List.any_eq_true] at hr2
      obtain ⟨e1, q, hq, e2, e3, hne⟩ := hr2
      exact ⟨r, hr1, q, hq, e1, e2, e, e3.trans e, fun e => hne e.symm⟩
theorem frk_pos {S : List Rc} (hv : ∀ r ∈ S, rcB r = true) (t : Nat) : 1 ≤ frk S t ∧ frk S t ≤ 1000001 := by
  have h := frk_is hv t
  refine ⟨?_, h.le⟩
  rcases Int.lt_or_le (frk S t) 1 with h1 | h1
  · exfalso
    obtain ⟨r, hr, q, hq, e1, e2, e3, e4, hne⟩ := h.is (by omega)
    have := (rc_ok (hv r hr)).num
    omega
  · exact h1
/-- The next one by numbers. -/
theorem next_iff {S : List Rc} (hv : ∀ r ∈ S, rcB r = true) {u : Nat → Int} (hu : Up S u) {t : Nat} :
    Next S u t ↔ ∃ r ∈ S, r.tb = t ∧ r.num = u t + 1 ∧ u t + 1 < frk S t ∧ ∀ s : Nat, s < 8 → min (r.sn s) (frk S s - 1) ≤ u s := by
  constructor
  · rintro ⟨r, hr, e1, e2, hs, ha⟩
    have o := rc_ok (hv r hr)
    refine ⟨r, hr, e1, e2, ((frk_is hv t).straight hv (by have := o.num; omega)).1 hs, fun s h1 => ?_⟩
    have hp := hu.pos s
    have hsn := o.seen s h1
    rcases Int.lt_or_le (u s) (min (r.sn s) (frk S s - 1)) with h | h
    · exfalso
      have := ha s h1 (min (r.sn s) (frk S s - 1)) (by omega) (by omega) (((frk_is hv s).straight hv (by omega)).2 (by omega))
      omega
    · exact h
  · rintro ⟨r, hr, e1, e2, hlt, ha⟩
    have o := rc_ok (hv r hr)
    refine ⟨r, hr, e1, e2, ((frk_is hv t).straight hv (by have := o.num; omega)).2 hlt, fun s h1 n h3 h4 h5 => ?_⟩
    have := ((frk_is hv s).straight hv (by have := o.seen s h1; omega)).1 h5
    have := ha s h1
    omega

/-! ### The greatest vector -/
open Classical in
/-- How many records of tablet t, from the first one on, count, up to n. -/
noncomputable def upN (S : List Rc) (t : Nat) : Nat → Nat
  | 0 => 0
  | n + 1 => if upN S t n = n ∧ ∃ r, Cnt S r ∧ r.tb = t ∧ r.num = ((n + 1 : Nat) : Int) then n + 1 else upN S t n
noncomputable def upT (S : List Rc) (t : Nat) : Int := (upN S t 1000000 : Nat)
theorem upN_le (S : List Rc) (t : Nat) : ∀ n, upN S t n ≤ n
  | 0 => Nat.le_refl _
  | n + 1 => by
    have := upN_le S t n
    unfold upN
    split <;> omega
theorem upN_cnt (S : List Rc) (t : Nat) : ∀ n k, 1 ≤ k → k ≤ upN S t n → ∃ r, r.tb = t ∧ r.num = ((k : Nat) : Int) ∧ Cnt S r
  | 0, k, h1, h2 => by simp only [upN] at h2; omega
  | n + 1, k, h1, h2 => by
    have ih := upN_cnt S t n k h1
    unfold upN at h2
    split at h2
    · rename_i h
      by_cases hk : k = n + 1
      · obtain ⟨_, r, hc, e1, e2⟩ := h
        exact ⟨r, e1, by rw [e2, hk], hc⟩
      · exact ih (by omega)
    · exact ih h2
theorem upN_reach (S : List Rc) (t : Nat) : ∀ n m, m ≤ n → (∀ k : Nat, 1 ≤ k → k ≤ m → ∃ r, r.tb = t ∧ r.num = ((k : Nat) : Int) ∧ Cnt S r) → m ≤ upN S t n
  | 0, m, h, _ => by omega
  | n + 1, m, h, hc => by
    unfold upN
    by_cases e : m = n + 1
    · have := upN_reach S t n n (Nat.le_refl _) (fun k h1 h2 => hc k h1 (by omega))
      have h2 := upN_le S t n
      obtain ⟨r, e1, e2, hr⟩ := hc (n + 1) (by omega) (by omega)
      rw [if_pos ⟨by omega, r, hr, e1, e2⟩]
      omega
    · have := upN_reach S t n m (by omega) hc
      split <;> omega
theorem upT_up (S : List Rc) : Up S (upT S) := by
  refine ⟨fun t => by unfold upT; omega, fun t _ n h1 h2 => ?_⟩
  obtain ⟨k, rfl⟩ : ∃ k : Nat, n = (k : Int) := ⟨n.toNat, by omega⟩
  unfold upT at h2
  exact upN_cnt S t 1000000 k (by omega) (by omega)
/-- A vector behind the last step is the greatest one. -/
theorem up_is {S : List Rc} (hv : ∀ r ∈ S, rcB r = true) {u : Nat → Int} (hu : Up S u) (su : Shut S u) {t : Nat} (ht : t < 8) : u t = upT S t := by
  have hb := hu.bound hv ht
  have hp := hu.pos t
  refine Int.le_antisymm ?_ ?_
  · have := upN_reach S t 1000000 (u t).toNat (by omega) (fun k h1 h2 => hu.cnt t ht (k : Int) (by omega) (by omega))
    unfold upT
    omega
  · rcases Int.lt_or_le (u t) (upT S t) with h | h
    · exfalso
      obtain ⟨r, e1, e2, hc⟩ := (upT_up S).cnt t ht (upT S t) (by omega) (Int.le_refl _)
      have := cnt_le hv hu su hc
      rw [e1, e2] at this
      omega
    · exact h
open Classical in
/-- Whether a record counts. -/
noncomputable def cntB (S : List Rc) (r : Rc) : Bool := decide (Cnt S r)
open Classical in
/-- .. by a vector behind the last step. -/
theorem cntB_eq {S : List Rc} (hv : ∀ r ∈ S, rcB r = true) {u : Nat → Int} (hu : Up S u) (su : Shut S u) {r : Rc} (hr : r ∈ S) : cntB S r = decide (r.num ≤ u r.tb) := by
  have o := rc_ok (hv r hr)
  unfold cntB
  by_cases h : r.num ≤ u r.tb
  · rw [decide_eq_true (cnt_of hu hr o.tb.1 o.num.1 h), decide_eq_true h]
  · rw [decide_eq_false (fun hc => h (cnt_le hv hu su hc)), decide_eq_false h]
/-- It is above every vector. -/
theorem up_le {S : List Rc} (hv : ∀ r ∈ S, rcB r = true) {u : Nat → Int} (hu : Up S u) {t : Nat} (ht : t < 8) : u t ≤ upT S t := by
  have hb := hu.bound hv ht
  have hp := hu.pos t
  have := upN_reach S t 1000000 (u t).toNat (by omega) (fun k h1 h2 => hu.cnt t ht (k : Int) (by omega) (by omega))
  unfold upT
  omega
theorem upT_shut {S : List Rc} (hv : ∀ r ∈ S, rcB r = true) : Shut S (upT S) := by
  intro t ht hn
  have := up_le hv ((upT_up S).step hn) ht
  simp only [upS, if_pos] at this
  omega
theorem cntB_up {S : List Rc} (hv : ∀ r ∈ S, rcB r = true) {r : Rc} (hr : r ∈ S) : cntB S r = decide (r.num ≤ upT S r.tb) := cntB_eq hv (upT_up S) (upT_shut hv) hr
/-- What counts hangs on the members alone. -/
theorem cnt_perm {S T : List Rc} (h : ∀ r, r ∈ S ↔ r ∈ T) {r : Rc} (hc : Cnt S r) : Cnt T r := by
  have hst : ∀ t n, Straight T t n → Straight S t n := fun t n hs a ha b hb => hs a ((h a).1 ha) b ((h b).1 hb)
  induction hc with
  | mk r hr hs ha hcs ih =>
    refine .mk r ((h r).1 hr) (fun a ha b hb => hs a ((h a).2 ha) b ((h b).2 hb)) (fun s h1 n h2 h3 h4 => ?_) (fun q hq h1 h2 h3 h4 => ih q ((h q).2 hq) h1 h2 h3 (hst _ _ h4))
    obtain ⟨q, hq, e⟩ := ha s h1 n h2 h3 (hst _ _ h4)
    exact ⟨q, (h q).1 hq, e⟩
open Classical in
theorem cntB_perm {S T : List Rc} (h : ∀ r, r ∈ S ↔ r ∈ T) (r : Rc) : cntB S r = cntB T r := by
  unfold cntB
  exact decide_eq_decide.2 ⟨cnt_perm h, cnt_perm fun r => (h r).symm⟩
open Classical in
theorem upN_perm {S T : List Rc} (h : ∀ r, r ∈ S ↔ r ∈ T) (t : Nat) : ∀ n, upN S t n = upN T t n
  | 0 => rfl
  | n + 1 => by
    have e : (∃ r, Cnt S r ∧ r.tb = t ∧ r.num = ((n + 1 : Nat) : Int)) ↔ (∃ r, Cnt T r ∧ r.tb = t ∧ r.num = ((n + 1 : Nat) : Int)) :=
      ⟨fun ⟨r, h1, h2⟩ => ⟨r, cnt_perm h h1, h2⟩, fun ⟨r, h1, h2⟩ => ⟨r, cnt_perm (fun r => (h r).symm) h1, h2⟩⟩
    unfold upN
    rw [upN_perm h t n]
    by_cases h1 : upN T t n = n ∧ ∃ r, Cnt T r ∧ r.tb = t ∧ r.num = ((n + 1 : Nat) : Int)
    · rw [if_pos h1, if_pos ⟨h1.1, e.2 h1.2⟩]
    · rw [if_neg h1, if_neg (fun h2 => h1 ⟨h2.1, e.1 h2.2⟩)]
theorem upT_perm {S T : List Rc} (h : ∀ r, r ∈ S ↔ r ∈ T) (t : Nat) : upT S t = upT T t := by
  unfold upT
  rw [upN_perm h]

end Go.Proofs.YtegghimjmbgghaaGreat
