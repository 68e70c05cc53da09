/-
  The reader of the reference: has, skip, word, number, text, place.
-/
import Derived.Test.YtbnnnjkfhffekaaGreatDoorWaK
import Derived.Test.YtbnnnjkfhffekaaGreatDoorWaP
import Derived.Test.YtbnnnjkfhffekaaGreatDoorFcD
set_option linter.unusedSimpArgs false
set_option linter.unusedVariables false
namespace Go.Proofs.YtbnnnjkfhffekaaGreatDoor
open Go.RowKit

/-- All blocks but those of p lie as they lay. -/
structure Mv (p : Nat → Prop) (w W : World) : Prop where
  os : W.os = w.os
  tape : W.tape = w.tape
  output : W.output = w.output
  size : w.heap.size ≤ W.heap.size
  block : ∀ k, k < w.heap.size → ¬ p k → W.heap[k]? = w.heap[k]?
theorem Mv.refl (p : Nat → Prop) (w : World) : Mv p w w := ⟨rfl, rfl, rfl, Nat.le_refl _, fun _ _ _ => rfl⟩
theorem Mv.trans {p : Nat → Prop} {w W V : World} (h : Mv p w W) (k : Mv p W V) : Mv p w V :=
  ⟨k.os.trans h.os, k.tape.trans h.tape, k.output.trans h.output, Nat.le_trans h.size k.size, fun i hi hn => (k.block i (Nat.lt_of_lt_of_le hi h.size) hn).trans (h.block i hi hn)⟩
theorem Mv.mono {p q : Nat → Prop} {w W : World} (h : Mv p w W) (hq : ∀ k, p k → q k) : Mv q w W := ⟨h.os, h.tape, h.output, h.size, fun k hk hn => h.block k hk (fun hp => hn (hq k hp))⟩
theorem Mv.set {p : Nat → Prop} (w : World) (R i : Nat) (v : Value) (hp : p R) : Mv p w (w.setCell ⟨R, i, none⟩ v) :=
  ⟨rfl, rfl, rfl, by simp, fun k _ hn => heap_setCell_other _ _ _ _ (fun e => hn (by rw [e]; exact hp))⟩
theorem Mv.after {p : Nat → Prop} {w W V : World} (h : Mv p w W) (hb : Below W.heap.size W V) : Mv p w V := h.trans ⟨hb.os, hb.tape, hb.output, hb.size, fun k hk _ => hb.block k hk⟩
theorem Mv.below {p : Nat → Prop} {w W : World} (h : Mv p w W) {B : Nat} (hB : ∀ k, k < B → ¬ p k) (hw : B ≤ w.heap.size) : Below B w W := ⟨h.os, h.tape, h.output, h.size, fun k hk => h.block k (by omega) (hB k hk)⟩
theorem Mv.kept {p : Nat → Prop} {w W : World} (h : Mv p w W) {k : Nat} {o : Obj} (ho : w.heap[k]? = some o) (hn : ¬ p k) : W.heap[k]? = some o := (h.block k (Array.getElem?_eq_some_iff.1 ho).1 hn).trans ho

/-- The block R holds a reader. -/
def RdAt (w : World) (R : Nat) (r : Rdr) : Prop := w.heap[R]? = some (.cells #[.string (SB r.s), .bool r.bad] 90 (0, 0))
theorem RdAt.cells {w : World} {R : Nat} {r : Rdr} (h : RdAt w R r) : w.cell? ⟨R, 0, none⟩ = some (.string (SB r.s)) ∧ w.cell? ⟨R, 1, none⟩ = some (.bool r.bad) ∧ w.frozen? ⟨R, 0, none⟩ = false ∧ w.frozen? ⟨R, 1, none⟩ = false :=
  ⟨cell_of_row _ _ _ _ _ _ h, cell_of_row _ _ _ _ _ _ h, frozen_of_row _ _ _ _ _ h, frozen_of_row _ _ _ _ _ h⟩
theorem RdAt.setS {w : World} {R : Nat} {r : Rdr} (h : RdAt w R r) (s : List UInt8) : RdAt (w.setCell ⟨R, 0, none⟩ (.string (SB s))) R ⟨s, r.bad⟩ := heap_setCell_same _ _ _ _ _ _ h
theorem RdAt.setB {w : World} {R : Nat} {r : Rdr} (h : RdAt w R r) (b : Bool) : RdAt (w.setCell ⟨R, 1, none⟩ (.bool b)) R ⟨r.s, b⟩ := heap_setCell_same _ _ _ _ _ _ h
theorem RdAt.mv {p : Nat → Prop} {w W : World} {R : Nat} {r : Rdr} (h : RdAt w R r) (hm : Mv p w W) (hn : ¬ p R) : RdAt W R r := hm.kept h hn
theorem RdAt.lt {w : World} {R : Nat} {r : Rdr} (h : RdAt w R r) : R < w.heap.size := (Array.getElem?_eq_some_iff.1 h).1

theorem SB_take (l : List UInt8) (n : Nat) : (SB l).extract 0 n = SB (l.take n) := by
  apply ByteArray.ext
  apply Array.toList_inj.1
  simp [SB, ByteArray.data_extract, List.extract_eq_take_drop]
theorem SB_drop (l : List UInt8) (n : Nat) : (SB l).extract n l.length = SB (l.drop n) := by
  apply ByteArray.ext
  apply Array.toList_inj.1
  simp [SB, ByteArray.data_extract, List.extract_eq_take_drop]
  exact List.take_of_length_le (by simp)
theorem pre_take (t s : List UInt8) : ((SB (s.take t.length)).toList == (SB t).toList) = t.isPrefixOf s := by
  rw [SB_toList, SB_toList, Bool.eq_iff_iff, beq_iff_eq, List.isPrefixOf_iff_prefix, List.prefix_iff_eq_take]
  exact eq_comm
theorem pre_long {t s : List UInt8} (h : s.length < t.length) : t.isPrefixOf s = false := by
  cases e : t.isPrefixOf s with
  | false => rfl
  | true => have := (List.isPrefixOf_iff_prefix.1 e).length_le; omega
theorem while_take {α : Type} {f : α → Bool} : ∀ (s : List α) (m : Nat), m ≤ s.length → (∀ (i : Nat) (h : i < s.length), i < m → f s[i] = true) → (∀ h : m < s.length, f s[m] = false) → s.takeWhile f = s.take m
  | [], m, _, _, _ => by simp
  | x :: s, 0, _, _, h2 => by
    have := h2 (by simp)
    simp at this
    simp [this]
  | x :: s, m + 1, hm, h1, h2 => by
    have hx := h1 0 (by simp) (by omega)
    simp at hx
    rw [List.takeWhile_cons, if_pos hx, List.take_succ_cons, while_take s m (by simpa using hm) (fun i h hi => by have := h1 (i + 1) (by simpa using h) (by omega); rwa [List.getElem_cons_succ] at this) (fun h => by have := h2 (by simpa using h); rwa [List.getElem_cons_succ] at this)]

set_option maxHeartbeats 1000000 in
set_option maxRecDepth 100000 in
theorem has_calls (R : Nat) (r : Rdr) (t : List UInt8) (w : World) (h : RdAt w R r) (hr : r.s.length ≤ 1000000) (ht : t.length ≤ 1000000) :
    Calls Tryz.prog 69 #[.pointer (some ⟨R, 0, none⟩), .string (SB t)] w fun e w' => e = .returned (.bool (t.isPrefixOf r.s)) ∧ w' = w := by
  have zsb : ∀ l : List UInt8, (SB l).size = l.length := fun _ => rfl
  obtain ⟨c0, c1, -, -⟩ := h.cells
  by_cases hl : t.length ≤ r.s.length
  · have hd : (t.length : Int) ≤ (r.s.length : Int) := by omega
    have hx := SB_take r.s t.length
    have hq := pre_take t r.s
    obtain ⟨b, hb⟩ : ∃ b, b = t.isPrefixOf r.s := ⟨_, rfl⟩
    rw [← hb] at hq ⊢
    clear hb h
    go_enter Tryz.func69, Tryz.ntmps69
    go_wp2_with fail
    go_ret
    first | exact ⟨rfl, rfl⟩ | (cases b <;> simp_all)
  · have hd : ¬ (t.length : Int) ≤ (r.s.length : Int) := by omega
    have hq := pre_long (t := t) (s := r.s) (by omega)
    rw [hq]
    clear hq h
    go_enter Tryz.func69, Tryz.ntmps69
    go_wp2_with fail
    go_ret
    exact ⟨rfl, rfl⟩

set_option maxHeartbeats 1000000 in
set_option maxRecDepth 100000 in
theorem skip_calls (R : Nat) (r : Rdr) (t : List UInt8) (w : World) (h : RdAt w R r) (hr : r.s.length ≤ 1000000) (ht : t.length ≤ 1000000) :
    Calls Tryz.prog 52 #[.pointer (some ⟨R, 0, none⟩), .string (SB t)] w fun e w' => (∃ v, e = .returned v) ∧ RdAt w' R (skipR t r) ∧ Mv (· = R) w w' := by
  have zsb : ∀ l : List UInt8, (SB l).size = l.length := fun _ => rfl
  obtain ⟨c0, c1, f0, f1⟩ := h.cells
  have HH := hid h
  have HC := hid (has_calls R r t w h hr ht)
  have HS := hid (show skipR t r = if t.isPrefixOf r.s then ⟨r.s.drop t.length, r.bad⟩ else ⟨r.s, true⟩ from rfl)
  have hx := SB_drop r.s t.length
  cases hb : t.isPrefixOf r.s with
  | true =>
    have hle : t.length ≤ r.s.length := (List.isPrefixOf_iff_prefix.1 hb).length_le
    have hd : (t.length : Int) ≤ (r.s.length : Int) := by omega
    rw [hb] at HC HS
    clear hb h
    go_enter Tryz.func52, Tryz.ntmps52
    go_wp2_with fail
    refine (unhid HC).mono ?_
    rintro e w1 ⟨rfl, rfl⟩
    go_wp2_with fail
    go_end0
    exact ⟨⟨_, rfl⟩, by rw [unhid HS]; exact (unhid HH).setS _, Mv.set _ _ _ _ rfl⟩
  | false =>
    rw [hb] at HC HS
    clear hb h
    go_enter Tryz.func52, Tryz.ntmps52
    go_wp2_with fail
    refine (unhid HC).mono ?_
    rintro e w1 ⟨rfl, rfl⟩
    go_wp2_with fail
    go_end0
    exact ⟨⟨_, rfl⟩, by rw [unhid HS]; exact (unhid HH).setB _, Mv.set _ _ _ _ rfl⟩

set_option maxHeartbeats 2000000 in
set_option maxRecDepth 100000 in
theorem word_calls (R : Nat) (r : Rdr) (w : World) (h : RdAt w R r) (hr : r.s.length ≤ 1000000) :
    Calls Tryz.prog 49 #[.pointer (some ⟨R, 0, none⟩)] w fun e w' => e = .returned (.string (SB (wordR r).1)) ∧ RdAt w' R (wordR r).2 ∧ Mv (· = R) w w' := by
  obtain ⟨c0, c1, f0, f1⟩ := h.cells
  have HH := hid h
  obtain ⟨S, hS⟩ : ∃ S : ByteArray, S = SB r.s := ⟨_, rfl⟩
  have HSZ := hid (show S.size = r.s.length by rw [hS]; rfl)
  have hs24 : S.size ≤ 1000000 := by rw [hS]; exact hr
  have HG := hid (show ∀ (i : Nat) (h : i < S.size) (h' : i < r.s.length), (S[i]'h).toNat = r.s[i].toNat from by subst hS; exact fun _ _ _ => rfl)
  have HT := hid (show ∀ m, S.extract 0 m = SB (r.s.take m) from fun m => by rw [hS]; exact SB_take _ _)
  have HD := hid (show ∀ m, S.extract m S.size = SB (r.s.drop m) from fun m => by rw [hS]; exact SB_drop _ _)
  have HFIN := hid (fun (m : Nat) (hm : m ≤ r.s.length) (h1 : ∀ (i : Nat) (h : i < r.s.length), i < m → isLow r.s[i] = true) (h2 : ∀ h : m < r.s.length, isLow r.s[m] = false) => while_take r.s m hm h1 h2)
  rw [← hS] at c0
  clear hS h
  go_enter Tryz.func49, Tryz.ntmps49
  go_wp2_with fail
  go_loopw [3] (fun nv wr => ∃ m : Nat, m ≤ S.size ∧ nv = .int .i64 m ∧ (∀ (i : Nat) (h : i < r.s.length), i < m → isLow r.s[i] = true) ∧ wr = w) (fun nv _ => S.size - (intOf nv).toNat)
  case atStart => exact ⟨0, Nat.zero_le _, rfl, fun i h hi => absurd hi (by omega), rfl⟩
  case round =>
    obtain ⟨m, hm, rfl, hall, rfl⟩ := hrel
    have HALL := hid hall
    clear hall
    by_cases hml : m < S.size
    · have hml' : m < r.s.length := by have := unhid HSZ; omega
      have hx0 := (unhid HG) m hml hml'
      have hmi : (m : Int) < (S.size : Int) := by omega
      by_cases hlow : isLow r.s[m] = true
      · have hb := hlow
        simp only [isLow, decide_eq_true_eq] at hb
        have HN := hid (show ∀ (i : Nat) (h : i < r.s.length), i < m + 1 → isLow r.s[i] = true from fun i h hi => by
          by_cases e : i = m
          · subst e; exact hlow
          · exact (unhid HALL) i h (by omega))
        obtain ⟨ch, hch⟩ : ∃ ch : Nat, ch = (r.s[m]).toNat := ⟨_, rfl⟩
        rw [← hch] at hx0 hb
        clear hch hlow
        have b1 : (97 : Int) ≤ (ch : Int) := by omega
        have b2 : (ch : Int) ≤ 122 := by omega
        go_wp2_with fail
        go_roundw
        case rel => exact ⟨m + 1, by omega, by go_num, unhid HN, by first | rfl | trivial⟩
        case measure => simp [intOf]; omega
      · have hb := hlow
        simp only [isLow, decide_eq_true_eq] at hb
        have HW := hid ((unhid HFIN) m (by omega) (unhid HALL) (fun _ => by simpa using hlow))
        obtain ⟨ch, hch⟩ : ∃ ch : Nat, ch = (r.s[m]).toNat := ⟨_, rfl⟩
        rw [← hch] at hx0 hb
        clear hch hlow
        have ht := (unhid HT) m
        have hd := (unhid HD) m
        have HWR := hid (show wordR r = (r.s.take m, ⟨r.s.drop m, r.bad⟩) by unfold wordR; rw [unhid HW, List.length_take, Nat.min_eq_left (by omega)])
        rcases (show ¬ (97 : Int) ≤ (ch : Int) ∨ ((97 : Int) ≤ (ch : Int) ∧ ¬ (ch : Int) ≤ 122) by omega) with b1 | ⟨b1, b2⟩
        all_goals
          clear hb
          go_wp2_with fail
          go_ret
          exact ⟨by rw [unhid HWR]; rfl, by rw [unhid HWR]; exact (unhid HH).setS _, Mv.set _ _ _ _ rfl⟩
    · obtain rfl : m = S.size := by omega
      have hmi : ¬ (S.size : Int) < (S.size : Int) := by omega
      have HW := hid ((unhid HFIN) S.size (by have := unhid HSZ; omega) (unhid HALL) (fun h => absurd h (by have := unhid HSZ; omega)))
      have HWR := hid (show wordR r = (r.s.take S.size, ⟨r.s.drop S.size, r.bad⟩) by unfold wordR; rw [unhid HW, List.length_take, Nat.min_eq_left (by have := unhid HSZ; omega)])
      have ht := (unhid HT) S.size
      have HEMP := hid (show SB (r.s.drop S.size) = ByteArray.empty by rw [← (unhid HD) S.size]; simp)
      go_wp2_with fail
      go_ret
      exact ⟨by rw [unhid HWR]; rfl, by rw [unhid HWR, ← unhid HEMP]; exact (unhid HH).setS _, Mv.set _ _ _ _ rfl⟩

theorem valR_snoc (l : List UInt8) (c : UInt8) : valR (l ++ [c]) = 10 * valR l + ((c.toNat : Int) - 48) := by simp [valR]
theorem val_bound : ∀ (l : List UInt8) (n : Int) (k : Nat), 0 ≤ n → n < 10 ^ k → (∀ c ∈ l, isDig c = true) → 0 ≤ l.foldl (fun n c => 10 * n + ((c.toNat : Int) - 48)) n ∧ l.foldl (fun n c => 10 * n + ((c.toNat : Int) - 48)) n < 10 ^ (k + l.length)
  | [], n, k, h0, h1, _ => ⟨h0, by simpa using h1⟩
  | c :: l, n, k, h0, h1, h => by
    have h2 := h c (by simp)
    simp only [isDig, decide_eq_true_eq] at h2
    have h3 := val_bound l (10 * n + ((c.toNat : Int) - 48)) (k + 1) (by omega) (by rw [Int.pow_succ]; omega) (fun x hx => h x (by simp [hx]))
    rw [List.foldl_cons, List.length_cons, show k + (l.length + 1) = k + 1 + l.length by omega]
    exact h3
theorem valR_bound (l : List UInt8) (h : ∀ c ∈ l, isDig c = true) : 0 ≤ valR l ∧ valR l < 10 ^ l.length := by
  have := val_bound l 0 0 (by omega) (by simp) h
  simpa [valR] using this

set_option maxHeartbeats 4000000 in
set_option maxRecDepth 100000 in
theorem number_calls' (R : Nat) (r : Rdr) (w : World) (h : RdAt w R r) (hr : r.s.length ≤ 1000000) :
    Calls Tryz.prog 51 #[.pointer (some ⟨R, 0, none⟩)] w fun e w' => e = .returned (.int .i64 (numR r).1) ∧ RdAt w' R (numR r).2 ∧ Mv (· = R) w w' := by
  have HSK := hid (skip_calls R r [32] w h hr (by simp))
  have HNU := hid (show numR r = (valR (digsR (skipR [32] r).s), ⟨(skipR [32] r).s.drop (digsR (skipR [32] r).s).length, (skipR [32] r).bad || (digsR (skipR [32] r).s).isEmpty⟩) from rfl)
  have hql : (skipR [32] r).s.length ≤ 1000000 := by
    unfold skipR
    split
    · simp; omega
    · exact hr
  obtain ⟨q, hq⟩ : ∃ q, q = skipR [32] r := ⟨_, rfl⟩
  rw [← hq] at HSK HNU hql
  clear hq h
  go_enter Tryz.func51, Tryz.ntmps51
  go_wp2_with fail
  refine (unhid HSK).mono ?_
  rintro e w1 ⟨⟨v, rfl⟩, hrd, hmv⟩
  have HMV := hid hmv
  have HH := hid hrd
  obtain ⟨c0, c1, f0, f1⟩ := hrd.cells
  obtain ⟨S, hS⟩ : ∃ S : ByteArray, S = SB q.s := ⟨_, rfl⟩
  have HSZ := hid (show S.size = q.s.length by rw [hS]; rfl)
  have hs24 : S.size ≤ 1000000 := by rw [hS]; exact hql
  have HG := hid (show ∀ (i : Nat) (h : i < S.size) (h' : i < q.s.length), (S[i]'h).toNat = q.s[i].toNat from by subst hS; exact fun _ _ _ => rfl)
  have HD := hid (show ∀ m, S.extract m S.size = SB (q.s.drop m) from fun m => by rw [hS]; exact SB_drop _ _)
  have HFIN := hid (show ∀ (m : Nat), m ≤ q.s.length → m ≤ 6 → (∀ (i : Nat) (h : i < q.s.length), i < m → isDig q.s[i] = true) → (∀ h : m < q.s.length, m < 6 → isDig q.s[m] = false) → digsR q.s = q.s.take m from fun m hm h6 h1 h2 => by
    unfold digsR
    rw [while_take (q.s.take 6) m (by rw [List.length_take]; omega) (fun i h hi => by rw [List.getElem_take]; exact h1 i (by rw [List.length_take] at h; omega) hi) (fun h => by rw [List.getElem_take]; rw [List.length_take] at h; exact h2 (by omega) (by omega)), List.take_take, Nat.min_eq_left h6])
  rw [← hS] at c0
  clear hS hrd hmv
  go_wp2_with fail
  go_loopw [3, 4] (fun nv kv wr => ∃ m : Nat, m ≤ S.size ∧ m ≤ 6 ∧ nv = .int .i64 (valR (q.s.take m)) ∧ kv = .int .i64 m ∧ (∀ (i : Nat) (h : i < q.s.length), i < m → isDig q.s[i] = true) ∧ wr = w1) (fun _ kv _ => S.size - (intOf kv).toNat)
  case atStart => exact ⟨0, Nat.zero_le _, by omega, rfl, rfl, fun i h hi => absurd hi (by omega), rfl⟩
  case round =>
    obtain ⟨m, hm, hm6, rfl, rfl, hall, rfl⟩ := hrel
    have HALL := hid hall
    have hmq : m ≤ q.s.length := by have := unhid HSZ; omega
    have hvb := valR_bound (q.s.take m) (fun c hc => by
      obtain ⟨i, hi, rfl⟩ := List.getElem_of_mem hc
      rw [List.getElem_take]
      exact hall i (by rw [List.length_take] at hi; omega) (by rw [List.length_take] at hi; omega))
    have hv6 : valR (q.s.take m) < 1000000 := by
      have h2 : (10 : Int) ^ (q.s.take m).length ≤ 10 ^ 6 := by
        have h3 : (10 : Nat) ^ (q.s.take m).length ≤ 10 ^ 6 := Nat.pow_le_pow_right (by omega) (by rw [List.length_take]; omega)
        exact_mod_cast h3
      have := hvb.2
      omega
    have hv0 := hvb.1
    have hem : ((m : Int) == 0) = (digsR q.s).isEmpty ∨ True := .inr trivial
    clear hall hvb hem
    by_cases hgo : m < S.size ∧ m < 6
    · obtain ⟨hml, hm5⟩ := hgo
      have hml' : m < q.s.length := by have := unhid HSZ; omega
      have hx0 := (unhid HG) m hml hml'
      have hmi : (m : Int) < (S.size : Int) := by omega
      have hmj : (m : Int) < 6 := by omega
      by_cases hlow : isDig q.s[m] = true
      · have hb := hlow
        simp only [isDig, decide_eq_true_eq] at hb
        have HN := hid (show ∀ (i : Nat) (h : i < q.s.length), i < m + 1 → isDig q.s[i] = true from fun i h hi => by
          by_cases e : i = m
          · subst e; exact hlow
          · exact (unhid HALL) i h (by omega))
        have HV := hid (show valR (q.s.take (m + 1)) = 10 * valR (q.s.take m) + ((q.s[m].toNat : Int) - 48) by rw [List.take_succ_eq_append_getElem hml', valR_snoc])
        obtain ⟨vv, hvv⟩ : ∃ vv, vv = valR (q.s.take m) := ⟨_, rfl⟩
        rw [← hvv] at hv0 hv6 HV ⊢
        clear hvv
        obtain ⟨ch, hch⟩ : ∃ ch : Nat, ch = (q.s[m]).toNat := ⟨_, rfl⟩
        rw [← hch] at hx0 hb HV
        clear hch hlow
        have b1 : (48 : Int) ≤ (ch : Int) := by omega
        have b2 : (ch : Int) ≤ 57 := by omega
        have e8 : IntKind.u8.wrap ((ch : Int) - 48) = (ch : Int) - 48 := by unfold IntKind.wrap; simp [IntKind.signed, IntKind.bits]; omega
        obtain ⟨y0, y0'⟩ := w64 (n := 10 * vv) (by omega) (by omega)
        obtain ⟨y1, y1'⟩ := w64 (n := (ch : Int) - 48) (by omega) (by omega)
        obtain ⟨y2, y2'⟩ := w64 (n := 10 * vv + ((ch : Int) - 48)) (by omega) (by omega)
        go_wp2_with fail
        go_roundw
        case rel => exact ⟨m + 1, by omega, by omega, by rw [unhid HV], by go_num, unhid HN, by first | rfl | trivial⟩
        case measure => simp [intOf]; omega
      · have hb := hlow
        simp only [isDig, decide_eq_true_eq] at hb
        have HW := hid ((unhid HFIN) m hmq (by omega) (unhid HALL) (fun _ _ => by simpa using hlow))
        have HWR := hid ((unhid HNU).trans (by rw [unhid HW, List.length_take, Nat.min_eq_left hmq]) : numR r = (valR (q.s.take m), ⟨q.s.drop m, q.bad || (q.s.take m).isEmpty⟩))
        have hd := (unhid HD) m
        have HDD := hid hd
        have hz : ((m : Int) == 0) = (q.s.take m).isEmpty := by
          rw [Bool.eq_iff_iff, beq_iff_eq, List.isEmpty_iff, List.take_eq_nil_iff]
          constructor
          · intro e; left; omega
          · rintro (e | e)
            · omega
            · have hs0 : q.s.length = 0 := by rw [e]; rfl
              omega
        obtain ⟨z, hzz⟩ : ∃ z, z = (q.s.take m).isEmpty := ⟨_, rfl⟩
        rw [← hzz] at HWR hz
        clear hzz
        obtain ⟨vv, hvv⟩ : ∃ vv, vv = valR (q.s.take m) := ⟨_, rfl⟩
        rw [← hvv] at hv0 hv6 HWR ⊢
        clear hvv
        obtain ⟨bd, hbd⟩ : ∃ bd, bd = q.bad := ⟨_, rfl⟩
        have HBD := hid hbd
        rw [← hbd] at c1 HWR
        clear hbd
        obtain ⟨ch, hch⟩ : ∃ ch : Nat, ch = (q.s[m]).toNat := ⟨_, rfl⟩
        rw [← hch] at hx0 hb
        clear hch hlow
        rcases (show ¬ (48 : Int) ≤ (ch : Int) ∨ ((48 : Int) ≤ (ch : Int) ∧ ¬ (ch : Int) ≤ 57) by omega) with b1 | ⟨b1, b2⟩
        all_goals
          clear hb
          cases bd with
          | true =>
            go_wp2_with fail
            go_ret
            exact ⟨by rw [unhid HWR]; rfl, by rw [unhid HWR]; exact ((unhid HH).setB _).setS _, (unhid HMV).trans ((Mv.set (p := (· = R)) _ _ _ _ rfl).trans (Mv.set (p := (· = R)) _ _ _ _ rfl))⟩
          | false =>
            go_wp2_with fail
            go_ret
            exact ⟨by rw [unhid HWR]; rfl, by rw [unhid HWR]; exact ((unhid HH).setB _).setS _, (unhid HMV).trans ((Mv.set (p := (· = R)) _ _ _ _ rfl).trans (Mv.set (p := (· = R)) _ _ _ _ rfl))⟩
    · have HW := hid ((unhid HFIN) m hmq hm6 (unhid HALL) (fun h h6 => absurd ⟨show m < S.size by have := unhid HSZ; omega, h6⟩ hgo))
      have HWR := hid ((unhid HNU).trans (by rw [unhid HW, List.length_take, Nat.min_eq_left hmq]) : numR r = (valR (q.s.take m), ⟨q.s.drop m, q.bad || (q.s.take m).isEmpty⟩))
      have hd := (unhid HD) m
      have HDD := hid hd
      have hz : ((m : Int) == 0) = (q.s.take m).isEmpty := by
        rw [Bool.eq_iff_iff, beq_iff_eq, List.isEmpty_iff, List.take_eq_nil_iff]
        constructor
        · intro e; left; omega
        · rintro (e | e)
          · omega
          · have hs0 : q.s.length = 0 := by rw [e]; rfl
            omega
      obtain ⟨z, hzz⟩ : ∃ z, z = (q.s.take m).isEmpty := ⟨_, rfl⟩
      rw [← hzz] at HWR hz
      clear hzz
      obtain ⟨vv, hvv⟩ : ∃ vv, vv = valR (q.s.take m) := ⟨_, rfl⟩
      rw [← hvv] at hv0 hv6 HWR ⊢
      clear hvv
      obtain ⟨bd, hbd⟩ : ∃ bd, bd = q.bad := ⟨_, rfl⟩
      have HBD := hid hbd
      rw [← hbd] at c1 HWR
      clear hbd
      rcases (show ¬ (m : Int) < (S.size : Int) ∨ ((m : Int) < (S.size : Int) ∧ ¬ (m : Int) < 6) by omega) with b1 | ⟨b1, b2⟩
      all_goals
        clear hgo
        cases bd with
        | true =>
          go_wp2_with fail
          go_ret
          exact ⟨by rw [unhid HWR]; rfl, by rw [unhid HWR]; exact ((unhid HH).setB _).setS _, (unhid HMV).trans ((Mv.set (p := (· = R)) _ _ _ _ rfl).trans (Mv.set (p := (· = R)) _ _ _ _ rfl))⟩
        | false =>
          go_wp2_with fail
          go_ret
          exact ⟨by rw [unhid HWR]; rfl, by rw [unhid HWR]; exact ((unhid HH).setB _).setS _, (unhid HMV).trans ((Mv.set (p := (· = R)) _ _ _ _ rfl).trans (Mv.set (p := (· = R)) _ _ _ _ rfl))⟩

set_option maxHeartbeats 2000000 in
set_option maxRecDepth 100000 in
theorem text_calls (R : Nat) (r : Rdr) (w : World) (h : RdAt w R r) (hr : r.s.length ≤ 1000000) :
    Calls Tryz.prog 72 #[.pointer (some ⟨R, 0, none⟩)] w fun e w' => e = .returned (.string (SB (textR r).1)) ∧ RdAt w' R (textR r).2 ∧ Mv (· = R) w w' := by
  have HSK := hid (skip_calls R r [32, 34] w h hr (by simp))
  have HNU := hid (show textR r = ((skipR [32, 34] r).s.takeWhile notQ, skipR [34] ⟨(skipR [32, 34] r).s.drop ((skipR [32, 34] r).s.takeWhile notQ).length, (skipR [32, 34] r).bad⟩) from rfl)
  have hql : (skipR [32, 34] r).s.length ≤ 1000000 := by
    unfold skipR
    split
    · simp; omega
    · exact hr
  obtain ⟨q, hq⟩ : ∃ q, q = skipR [32, 34] r := ⟨_, rfl⟩
  rw [← hq] at HSK HNU hql
  clear hq h
  go_enter Tryz.func72, Tryz.ntmps72
  go_wp2_with fail
  refine (unhid HSK).mono ?_
  rintro e w1 ⟨⟨v, rfl⟩, hrd, hmv⟩
  have HMV := hid hmv
  have HH := hid hrd
  obtain ⟨c0, c1, f0, f1⟩ := hrd.cells
  obtain ⟨S, hS⟩ : ∃ S : ByteArray, S = SB q.s := ⟨_, rfl⟩
  have HSZ := hid (show S.size = q.s.length by rw [hS]; rfl)
  have hs24 : S.size ≤ 1000000 := by rw [hS]; exact hql
  have HG := hid (show ∀ (i : Nat) (h : i < S.size) (h' : i < q.s.length), (S[i]'h).toNat = q.s[i].toNat from by subst hS; exact fun _ _ _ => rfl)
  have HT := hid (show ∀ m, S.extract 0 m = SB (q.s.take m) from fun m => by rw [hS]; exact SB_take _ _)
  have HD := hid (show ∀ m, S.extract m S.size = SB (q.s.drop m) from fun m => by rw [hS]; exact SB_drop _ _)
  have HFIN := hid (fun (m : Nat) (hm : m ≤ q.s.length) (h1 : ∀ (i : Nat) (h : i < q.s.length), i < m → notQ q.s[i] = true) (h2 : ∀ h : m < q.s.length, notQ q.s[m] = false) => while_take q.s m hm h1 h2)
  have HLAST := hid (fun (m : Nat) (W : World) (h : RdAt W R ⟨q.s.drop m, q.bad⟩) => skip_calls R ⟨q.s.drop m, q.bad⟩ [34] W h (by simp; omega) (by simp))
  rw [← hS] at c0
  clear hS hrd hmv
  go_wp2_with fail
  go_loopw [3] (fun nv wr => ∃ m : Nat, m ≤ S.size ∧ nv = .int .i64 m ∧ (∀ (i : Nat) (h : i < q.s.length), i < m → notQ q.s[i] = true) ∧ wr = w1) (fun nv _ => S.size - (intOf nv).toNat)
  case atStart => exact ⟨0, Nat.zero_le _, rfl, fun i h hi => absurd hi (by omega), rfl⟩
  case round =>
    obtain ⟨m, hm, rfl, hall, rfl⟩ := hrel
    have HALL := hid hall
    clear hall
    by_cases hml : m < S.size
    · have hml' : m < q.s.length := by have := unhid HSZ; omega
      have hx0 := (unhid HG) m hml hml'
      have hmi : (m : Int) < (S.size : Int) := by omega
      by_cases hlow : notQ q.s[m] = true
      · have hb : ¬ q.s[m].toNat = 34 := by
          simp only [notQ, decide_eq_true_eq] at hlow
          exact fun e => hlow (UInt8.toNat_inj.1 (by rw [e]; rfl))
        have HN := hid (show ∀ (i : Nat) (h : i < q.s.length), i < m + 1 → notQ q.s[i] = true from fun i h hi => by
          by_cases e : i = m
          · subst e; exact hlow
          · exact (unhid HALL) i h (by omega))
        obtain ⟨ch, hch⟩ : ∃ ch : Nat, ch = (q.s[m]).toNat := ⟨_, rfl⟩
        rw [← hch] at hx0 hb
        clear hch hlow
        have hb2 : ¬ (ch : Int) = 34 := by omega
        have hb3 : ((ch : Int) != 34) = true := by simp; omega
        go_wp2_with fail
        go_roundw
        case rel => exact ⟨m + 1, by omega, by go_num, unhid HN, by first | rfl | trivial⟩
        case measure => simp [intOf]; omega
      · have hb : q.s[m].toNat = 34 := by
          simp only [notQ, decide_eq_true_eq, Decidable.not_not] at hlow
          rw [hlow]; rfl
        have HW := hid ((unhid HFIN) m (by omega) (unhid HALL) (fun _ => by simpa using hlow))
        obtain ⟨ch, hch⟩ : ∃ ch : Nat, ch = (q.s[m]).toNat := ⟨_, rfl⟩
        rw [← hch] at hx0 hb
        clear hch hlow
        subst hb
        have ht := (unhid HT) m
        have hd := (unhid HD) m
        have HWR := hid ((unhid HNU).trans (by rw [unhid HW, List.length_take, Nat.min_eq_left (by omega)]) : textR r = (q.s.take m, skipR [34] ⟨q.s.drop m, q.bad⟩))
        have hb3 : ((34 : Int) != 34) = false := by decide
        go_wp2_with fail
        refine ((unhid HLAST) m _ ((unhid HH).setS _)).mono ?_
        rintro e w2 ⟨⟨v2, rfl⟩, hrd2, hmv2⟩
        have HR2 := hid hrd2
        have HM2 := hid ((unhid HMV).trans ((Mv.set (p := (· = R)) _ _ _ _ rfl).trans hmv2))
        clear hrd2 hmv2
        go_wp2_with fail
        go_ret
        exact ⟨by rw [unhid HWR]; rfl, by rw [unhid HWR]; exact unhid HR2, unhid HM2⟩
    · obtain rfl : m = S.size := by omega
      have hmi : ¬ (S.size : Int) < (S.size : Int) := by omega
      have HW := hid ((unhid HFIN) S.size (by have := unhid HSZ; omega) (unhid HALL) (fun h => absurd h (by have := unhid HSZ; omega)))
      have HWR := hid ((unhid HNU).trans (by rw [unhid HW, List.length_take, Nat.min_eq_left (by have := unhid HSZ; omega)]) : textR r = (q.s.take S.size, skipR [34] ⟨q.s.drop S.size, q.bad⟩))
      have ht := (unhid HT) S.size
      have HEMP := hid (show SB (q.s.drop S.size) = ByteArray.empty by rw [← (unhid HD) S.size]; simp)
      go_wp2_with fail
      refine ((unhid HLAST) S.size _ (by rw [← unhid HEMP]; exact (unhid HH).setS _)).mono ?_
      rintro e w2 ⟨⟨v2, rfl⟩, hrd2, hmv2⟩
      have HR2 := hid hrd2
      have HM2 := hid ((unhid HMV).trans ((Mv.set (p := (· = R)) _ _ _ _ rfl).trans hmv2))
      clear hrd2 hmv2
      go_wp2_with fail
      go_ret
      exact ⟨by rw [unhid HWR]; rfl, by rw [unhid HWR]; exact unhid HR2, unhid HM2⟩

/-- The block T holds an item. -/
def ItAt (w : World) (T : Nat) (x : It) : Prop := w.heap[T]? = some (.cells (itC x).toArray 96 (0, 0))
theorem ItAt.mv {p : Nat → Prop} {w W : World} {T : Nat} {x : It} (h : ItAt w T x) (hm : Mv p w W) (hn : ¬ p T) : ItAt W T x := hm.kept h hn
theorem ItAt.cell {w : World} {T : Nat} {x : It} (h : ItAt w T x) (i : Nat) : w.cell? ⟨T, i, none⟩ = (itC x).toArray[i]? := cell_of_row _ _ _ _ _ _ h
theorem ItAt.free {w : World} {T : Nat} {x : It} (h : ItAt w T x) (i : Nat) : w.frozen? ⟨T, i, none⟩ = false := frozen_of_row _ _ _ _ _ h
theorem ItAt.set {w : World} {T : Nat} {x y : It} (h : ItAt w T x) (i : Nat) (v : Value) (e : (itC x).toArray.setIfInBounds i v = (itC y).toArray) : ItAt (w.setCell ⟨T, i, none⟩ v) T y := by
  unfold ItAt
  rw [← e]
  exact heap_setCell_same _ _ _ _ _ _ h
theorem skip_len (t : List UInt8) (r : Rdr) : (skipR t r).s.length ≤ r.s.length := by
  unfold skipR
  split <;> simp
theorem num_len (r : Rdr) : (numR r).2.s.length ≤ r.s.length := by
  have := skip_len [32] r
  show ((skipR [32] r).s.drop _).length ≤ _
  rw [List.length_drop]
  omega
theorem word_len (r : Rdr) : (wordR r).2.s.length ≤ r.s.length ∧ (wordR r).1.length ≤ r.s.length := by
  refine ⟨?_, (List.takeWhile_prefix _).length_le⟩
  show (r.s.drop _).length ≤ _
  rw [List.length_drop]
  omega
theorem text_len (r : Rdr) : (textR r).2.s.length ≤ r.s.length ∧ (textR r).1.length ≤ r.s.length := by
  have h1 := skip_len [32, 34] r
  refine ⟨?_, Nat.le_trans ((List.takeWhile_prefix _).length_le) h1⟩
  refine Nat.le_trans (skip_len [34] _) ?_
  show ((skipR [32, 34] r).s.drop _).length ≤ _
  rw [List.length_drop]
  omega

set_option maxHeartbeats 2000000 in
set_option maxRecDepth 100000 in
theorem place_calls (R T : Nat) (hRT : R ≠ T) (r : Rdr) (x : It) (w : World) (h : RdAt w R r) (hx : ItAt w T x) (hr : r.s.length ≤ 1000000) :
    Calls Tryz.prog 71 #[.pointer (some ⟨R, 0, none⟩), .pointer (some ⟨T, 0, none⟩)] w fun e w' => (∃ v, e = .returned v) ∧ RdAt w' R (placeR r).2.2 ∧ ItAt w' T ⟨x.kind, x.colour, (placeR r).1, (placeR r).2.1, x.a, x.b, x.text⟩ ∧ Mv (fun k => k = R ∨ k = T) w w' := by
  have HS := hid (skip_calls R r [32, 97, 116] w h hr (by simp))
  have l1 := skip_len [32, 97, 116] r
  have HP := hid (show placeR r = ((numR (skipR [32, 97, 116] r)).1, (numR (numR (skipR [32, 97, 116] r)).2).1, (numR (numR (skipR [32, 97, 116] r)).2).2) from rfl)
  obtain ⟨r1, h1⟩ : ∃ r1, r1 = skipR [32, 97, 116] r := ⟨_, rfl⟩
  rw [← h1] at HS HP l1
  have l2 := num_len r1
  have HN1 := hid (fun W (h : RdAt W R r1) => number_calls' R r1 W h (by omega))
  obtain ⟨p, h2⟩ : ∃ p, p = numR r1 := ⟨_, rfl⟩
  rw [← h2] at HN1 HP l2
  have HN2 := hid (fun W (h : RdAt W R p.2) => number_calls' R p.2 W h (by omega))
  obtain ⟨q, h3⟩ : ∃ q, q = numR p.2 := ⟨_, rfl⟩
  rw [← h3] at HN2 HP
  have HX := hid hx
  clear h1 h2 h3 h hx l1 l2 hr
  go_enter Tryz.func71, Tryz.ntmps71
  go_wp2_with fail
  refine (unhid HS).mono ?_
  rintro e w1 ⟨⟨v, rfl⟩, hrd, hmv⟩
  have hx1 := (unhid HX).mv hmv (fun e => hRT e.symm)
  have HM := hid (hmv.mono (q := fun k => k = R ∨ k = T) (fun k e => .inl e))
  have HR := hid hrd
  have HX := hid hx1
  clear hrd hmv hx1
  go_wp2_with fail
  refine ((unhid HN1) w1 (unhid HR)).mono ?_
  rintro e w2 ⟨rfl, hrd, hmv⟩
  have hx1 := (unhid HX).mv hmv (fun e => hRT e.symm)
  have HM := hid ((unhid HM).trans (hmv.mono (q := fun k => k = R ∨ k = T) (fun k e => .inl e)))
  have HR := hid hrd
  have HX := hid hx1
  have c2 := hx1.cell 2
  have f2 := hx1.free 2
  simp [itC] at c2
  clear hrd hmv hx1
  go_upto_region 2 with (fail)
  have hx2 : ItAt (w2.setCell ⟨T, 2, none⟩ (.int .i64 p.1)) T ⟨x.kind, x.colour, p.1, x.low, x.a, x.b, x.text⟩ := (unhid HX).set 2 _ rfl
  have hr2 : RdAt (w2.setCell ⟨T, 2, none⟩ (.int .i64 p.1)) R p.2 := (heap_setCell_other _ _ _ _ hRT).trans (unhid HR)
  have HM := hid ((unhid HM).trans (Mv.set (p := fun k => k = R ∨ k = T) w2 T 2 (.int .i64 p.1) (.inr rfl)))
  generalize w2.setCell ⟨T, 2, none⟩ (.int .i64 p.1) = w3 at *
  have HX := hid hx2
  have HR := hid hr2
  clear hx2 hr2 c2 f2
  go_wp2_with fail
  refine ((unhid HN2) w3 (unhid HR)).mono ?_
  rintro e w4 ⟨rfl, hrd, hmv⟩
  have hx1 := (unhid HX).mv hmv (fun e => hRT e.symm)
  have HM := hid ((unhid HM).trans (hmv.mono (q := fun k => k = R ∨ k = T) (fun k e => .inl e)))
  have HR := hid hrd
  have HX := hid hx1
  have c2 := hx1.cell 3
  have f2 := hx1.free 3
  simp [itC] at c2
  clear hrd hmv hx1
  go_wp2_with fail
  go_end0
  refine ⟨⟨_, rfl⟩, ?_, ?_, (unhid HM).trans (Mv.set (p := fun k => k = R ∨ k = T) w4 T 3 _ (.inr rfl))⟩
  · rw [unhid HP]
    exact (heap_setCell_other _ _ _ _ hRT).trans (unhid HR)
  · rw [unhid HP]
    exact (unhid HX).set 3 _ rfl

end Go.Proofs.YtbnnnjkfhffekaaGreatDoor
