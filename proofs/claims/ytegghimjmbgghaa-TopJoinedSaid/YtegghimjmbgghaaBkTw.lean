/-
  slices.SortStableFunc at records: the order by hour. slices.SortStableFunc at fewer than 40 records that stand in their order. clear(s) at records. slices.DeleteFunc at records, with History's first function. History of the program, of a book of fewer than 40 records. Signs of the program. heard: two books with the same records have the same values and histories. alike: two books with the same records show the same.
-/
import Derived.Test.YtegghimjmbgghaaBkSx
import Derived.Test.YtegghimjmbgghaaBkSt
import Derived.Test.YtegghimjmbgghaaBkSm
import Derived.Lib.SliceRun
import Derived.Deep.MidRow
import Derived.Test.YtegghimjmbgghaaBkDp
import Derived.Test.YtegghimjmbgghaaBkN
import Derived.Test.YtegghimjmbgghaaBkSr
import Derived.Test.YtegghimjmbgghaaBkWt
import Derived.Test.YtegghimjmbgghaaBkFk
set_option linter.unusedSimpArgs false
set_option linter.unusedVariables false
namespace Go.Proofs.Ytegghimjmbgghaa
open Go.RowKit

section
open Go.RowKit Go.Shelf Go.Sort

/-- By hour, and of one hour by the order of records. -/
def hlt (r q : Rc) : Bool := decide (r.hour < q.hour) || (decide (r.hour = q.hour) && rls r q)
theorem hlt_iff {r q : Rc} : hlt r q = true ↔ r.hour < q.hour ∨ (r.hour = q.hour ∧ rls r q = true) := by simp [hlt]
theorem hlt_irr (r : Rc) : hlt r r = false := by
  cases h : hlt r r with
  | false => rfl
  | true =>
    rcases hlt_iff.1 h with h | h
    · omega
    · rw [rls_irr] at h; cases h.2
theorem hlt_trans {a b c : Rc} (h1 : hlt a b = true) (h2 : hlt b c = true) : hlt a c = true := by
  rw [hlt_iff] at *
  rcases h1 with h1 | h1 <;> rcases h2 with h2 | h2
  · exact .inl (by omega)
  · exact .inl (by omega)
  · exact .inl (by omega)
  · exact .inr ⟨by omega, rls_trans h1.2 h2.2⟩
theorem hlt_total {a b : Rc} (h : a ≠ b) : hlt a b = true ∨ hlt b a = true := by
  rw [hlt_iff, hlt_iff]
  rcases Int.lt_trichotomy a.hour b.hour with h1 | h1 | h1
  · exact .inl (.inl h1)
  · rcases rls_total h with h2 | h2
    · exact .inl (.inr ⟨h1, h2⟩)
    · exact .inr (.inr ⟨h1.symm, h2⟩)
  · exact .inr (.inl h1)
theorem hlt_swo : SWO hlt where
  irrefl := hlt_irr
  trans := fun _ _ _ => hlt_trans
  ntrans := fun x y z h1 h2 => by
    cases h3 : hlt x z with
    | false => rfl
    | true =>
      by_cases e : x = y
      · rw [e, h2] at h3; cases h3
      · rcases hlt_total e with h | h
        · rw [h] at h1; cases h1
        · by_cases e2 : y = z
          · rw [← e2, h1] at h3; cases h3
          · rcases hlt_total e2 with h4 | h4
            · rw [h4] at h2; cases h2
            · have := hlt_trans (hlt_trans h4 h) h3
              rw [hlt_irr] at this; cases this
theorem hlt_strict : Strict fun x y => hlt x y = true := ⟨fun _ _ _ => hlt_trans, fun x h => by rw [hlt_irr] at h; cases h⟩
theorem hrI_is {r q : Rc} (hr : rcB r = true) (hq : rcB q = true) : hrI r q = r.hour - q.hour := by
  have h1 := (rc_ok hr).hour
  have h2 := (rc_ok hq).hour
  unfold hrI
  rw [IntKind.wrap_i64]
  omega
/-- The later of two that stand in their order: by hours and by all is the same. -/
theorem hr_same {r q : Rc} (hr : rcB r = true) (hq : rcB q = true) (h : rls r q = true) : ltOf hrI q r = hlt q r := by
  unfold ltOf hlt
  rw [hrI_is hq hr, rls_asymm h, Bool.and_false, Bool.or_false]
  exact decide_eq_decide.2 (by omega)

/-- All records of an array are valid and stand in their order. -/
structure AscA (d : Array Rc) : Prop where
  v : ∀ i, i < d.size → rcB d[i]! = true
  asc : ∀ i j, i < j → j < d.size → rls d[i]! d[j]! = true
/-- What the sort leaves. -/
structure StOut (d d' : Array Rc) : Prop where
  perm : PermIn 0 d.size d d'
  asc : ∀ i j, i < j → j < d.size → hlt d'[i]! d'[j]! = true
theorem ne_of_perm {d d' : Array Rc} (h : AscA d) (hp : PermIn 0 d.size d d') {i j : Nat} (hij : i < j) (hj : j < d.size) : d'[i]! ≠ d'[j]! := by
  have hsz := hp.1
  have hpl : d'.toList.Perm d.toList := by
    have h3 := hp.2.2
    rw [show d.size = d'.size from hsz.symm] at h3
    rw [Array.extract_size] at h3
    rw [hsz, Array.extract_size] at h3
    exact h3
  have hnd : d.toList.Nodup := by
    rw [List.Nodup, List.pairwise_iff_getElem]
    intro i j hi hj hij e
    have h1 := h.asc i j hij (by simpa using hj)
    rw [getElem!_pos d i (by simpa using hi), getElem!_pos d j (by simpa using hj)] at h1
    have e2 : d[i]'(by simpa using hi) = d[j]'(by simpa using hj) := by simpa using e
    rw [e2, rls_irr] at h1
    cases h1
  have hnd2 := hpl.nodup_iff.2 hnd
  intro e
  rw [getElem!_pos d' i (by omega), getElem!_pos d' j (by omega)] at e
  rw [List.Nodup, List.pairwise_iff_getElem] at hnd2
  exact hnd2 i j (by simp; omega) (by simp; omega) hij (by simpa using e)
/-- One block: the insertion sort. -/
theorem st_small {d : Array Rc} (h : AscA d) : StOut d (insertionSort (ltOf hrI) d 0 d.size) := by
  obtain ⟨hp, hs⟩ := insertion_stable (lt1 := ltOf hrI) hlt_swo d (Nat.zero_le _) (Nat.le_refl _) (fun q t _ ht hq => hr_same (h.v t (by omega)) (h.v q hq) (h.asc t q ht hq))
  refine ⟨hp, fun i j hij hj => ?_⟩
  have h1 := hs i j (Nat.zero_le _) hij hj
  rcases hlt_total (ne_of_perm h hp hij hj) with h2 | h2
  · exact h2
  · rw [h1] at h2; cases h2
/-- Two blocks, each sorted: ready for the merge. -/
theorem st_two {d : Array Rc} (h : AscA d) {m : Nat} (hm : m ≤ d.size) : PermIn 0 d.size d (insertionSort (ltOf hrI) (insertionSort (ltOf hrI) d 0 m) m d.size) ∧ MrgIn (fun x y => hlt x y = true) hrI (insertionSort (ltOf hrI) (insertionSort (ltOf hrI) d 0 m) m d.size) 0 m d.size := by
  obtain ⟨p1, s1⟩ := insertion_stable (lt1 := ltOf hrI) hlt_swo d (Nat.zero_le m) hm (fun q t _ ht hq => hr_same (h.v t (by omega)) (h.v q (by omega)) (h.asc t q ht (by omega)))
  obtain ⟨d1, hd1⟩ : ∃ d1, d1 = insertionSort (ltOf hrI) d 0 m := ⟨_, rfl⟩
  rw [← hd1] at p1 s1 ⊢
  have z1 := p1.1
  have keep : ∀ t, m ≤ t → d1[t]! = d[t]! := fun t ht => p1.2.1 t (.inr ht)
  obtain ⟨p2, s2⟩ := insertion_stable (lt1 := ltOf hrI) hlt_swo d1 hm (by omega) (fun q t ht1 ht hq => by
    rw [keep q (by omega), keep t ht1]
    exact hr_same (h.v t (by omega)) (h.v q (by omega)) (h.asc t q ht (by omega)))
  obtain ⟨d2, hd2⟩ : ∃ d2, d2 = insertionSort (ltOf hrI) d1 m d.size := ⟨_, rfl⟩
  rw [← hd2] at p2 s2 ⊢
  have z2 := p2.1
  have hp : PermIn 0 d.size d d2 := permIn_trans _ _ _ _ _ (permIn_mono d d1 0 m 0 d.size (Nat.le_refl _) hm (Nat.le_refl _) p1) (permIn_mono d1 d2 m d.size 0 d.size (Nat.zero_le _) (Nat.le_refl _) (by omega) p2)
  have low : ∀ t, t < m → d2[t]! = d1[t]! := fun t ht => p2.2.1 t (.inl ht)
  -- what stands on the left came from the left
  have cross : ∀ i j, i < m → m ≤ j → j < d.size → ltOf hrI d2[j]! d2[i]! = hlt d2[j]! d2[i]! := by
    intro i j hi hmj hj
    rw [low i hi]
    refine permIn_all d1 d2 m d.size (fun z => ltOf hrI z d1[i]! = hlt z d1[i]!) (by omega) p2 (fun y y1 y2 => ?_) j hmj hj
    rw [keep y y1]
    refine permIn_all d d1 0 m (fun z => ltOf hrI d[y]! z = hlt d[y]! z) hm p1 (fun x _ x2 => hr_same (h.v x (by omega)) (h.v y (by omega)) (h.asc x y (by omega) y2)) i (Nat.zero_le _) hi
  have tot : ∀ i j, i < j → j < d.size → hlt d2[j]! d2[i]! = false → hlt d2[i]! d2[j]! = true := fun i j hij hj h1 => by
    rcases hlt_total (ne_of_perm h hp hij hj) with h2 | h2
    · exact h2
    · rw [h1] at h2; cases h2
  refine ⟨hp, fun i j _ hij hj => ?_, fun i j hi hij hj => tot i j hij hj (s2 i j hi hij hj), fun i j _ hi hmj hj hl => ?_, fun i j _ hi hmj hj hl => ?_⟩
  · refine tot i j hij (by omega) ?_
    rw [low i (by omega), low j hj]
    exact s1 i j (Nat.zero_le _) hij hj
  · have := cross i j hi hmj hj
    rw [← this]
    exact decide_eq_true hl
  · refine tot i j (by omega) hj ?_
    rw [← cross i j hi hmj hj]
    exact decide_eq_false hl

theorem size_insInner {lt : Rc → Rc → Bool} (a : Nat) : ∀ (j : Nat) (d : Array Rc), (insInner lt a j d).size = d.size
  | 0, d => rfl
  | j + 1, d => by
    unfold insInner
    split
    · rw [size_insInner a j, size_swp]
    · rfl
theorem size_insOuter {lt : Rc → Rc → Bool} (a b : Nat) : ∀ (n i : Nat) (d : Array Rc), b - i = n → (insOuter lt a b i d).size = d.size
  | 0, i, d, h => by
    unfold insOuter
    rw [if_neg (by omega)]
  | n + 1, i, d, h => by
    unfold insOuter
    rw [if_pos (by omega), size_insOuter a b n (i + 1) _ (by omega), size_insInner]
/-- insertionSort at records, at a world of the sort's. -/
theorem insertion_calls {w0 : World} {blk off : Nat} {d0 : Array Rc} (R : RowK rcC 14 w0 blk off d0) (cap a b : Nat) (ai bi : Int) (d : Array Rc) (w : World) (h : SWK rcC 14 w0 blk off d w) (hs : d.size = d0.size) (hab : a ≤ b) (hb : b ≤ d0.size) (hsz : d0.size ≤ 1000000) (ha : ai = (a : Int)) (hbi : bi = (b : Int)) :
    Calls Try.prog 127 #[.slice (some ⟨blk, off, none⟩) d0.size cap, .int .i64 ai, .int .i64 bi, .func (.func 116) #[] #[]] w fun e w' => e = .returned (.tuple #[]) ∧ SWK rcC 14 w0 blk off (insertionSort (ltOf hrI) d a b) w' := by
  subst ha hbi
  have hsz1 : (insertionSort (ltOf hrI) d a b).size = d.size := size_insOuter a b (b - (a + 1)) (a + 1) d rfl
  have hcon := AnyQ.insertionSortCmpFunc (P := Try.prog) { Try.sortRec with } 14 Try.isAgg33 Try.sizeOf33 rcC (fun _ => rfl) (fun x v hv => rcC_one (l := [x]) v (by simpa [recs] using hv)) hrI 116 #[] blk off cap a b d w
    (fun args w => by simp [go_sem]) (hr_lays blk off d.size w) (h.holds R.hblk R.hH hs) (h.lt R.hblk) hab (by omega) (by omega)
  rw [hs] at hcon
  change Calls Try.prog 127 _ _ _ at hcon
  refine hcon.mono ?_
  rintro e w' ⟨rfl, n, os, rfl⟩
  exact ⟨rfl, h.on R.hblk n _ os hsz1⟩
end

section
open Go.RowKit Go.Shelf Go.Sort

def StPost (w0 : World) (blk off : Nat) (d : Array Rc) (e : Ending) (w' : World) : Prop := e = .returned (.tuple #[]) ∧ ∃ d', StOut d d' ∧ SWK rcC 14 w0 blk off d' w'
set_option maxHeartbeats 8000000 in
set_option maxRecDepth 100000 in
theorem stable_calls {w0 : World} {blk off : Nat} {d0 : Array Rc} (R : RowK rcC 14 w0 blk off d0) (cap : Nat) (d : Array Rc) (w : World) (h : SWK rcC 14 w0 blk off d w) (hs : d.size = d0.size) (hA : AscA d) (hn : d0.size < 40) :
    Calls Try.prog 146 #[.slice (some ⟨blk, off, none⟩) d0.size cap, .int .i64 d0.size, .func (.func 116) #[] #[]] w fun e w' => StPost w0 blk off d e w' := by
  have HR := hid R
  have HK := hid h
  have HS := hid hs
  have HA := hid hA
  clear h hA
  go_enter Try.func146, Try.ntmps146
  by_cases h20 : d0.size < 20
  · have c1 : ¬ (20 : Int) ≤ (d0.size : Int) := by omega
    have c2 : ¬ (20 : Int) < (d0.size : Int) := by omega
    have HO := hid (st_small (unhid HA))
    have HN := hid hn
    clear hs hn h20
    go_wp2_with fail
    refine wp_loop_rounds 1 ?_
    rw [rounds_succ]
    go_wp2_with fail
    refine (insertion_calls (unhid HR) cap 0 d0.size _ _ d w (unhid HK) (unhid HS) (Nat.zero_le _) (Nat.le_refl _) (by have := unhid HN; omega) rfl rfl).mono ?_
    rintro e w1 ⟨rfl, hk1⟩
    have HP := hid (show StPost w0 blk off d (.returned (.tuple #[])) w1 from ⟨rfl, _, unhid HO, by rw [unhid HS]; exact hk1⟩)
    clear hk1
    go_wp2_with fail
    refine wp_loop_rounds 1 ?_
    rw [rounds_succ]
    go_wp2_with fail
    go_end0
    exact unhid HP
  · have c1 : (20 : Int) ≤ (d0.size : Int) := by omega
    have c3 : ¬ (40 : Int) ≤ (d0.size : Int) := by omega
    have HL := hid (show 20 ≤ d0.size ∧ d0.size < 40 from by omega)
    have HT := hid (st_two (unhid HA) (m := 20) (by omega))
    clear hs hn h20
    go_wp2_with fail
    refine wp_loop_rounds 2 ?_
    rw [rounds_succ]
    go_wp2_with fail
    refine (insertion_calls (unhid HR) cap 0 20 _ _ d w (unhid HK) (unhid HS) (Nat.zero_le _) (unhid HL).1 (by have := unhid HL; omega) rfl rfl).mono ?_
    rintro e w1 ⟨rfl, hk1⟩
    have HK1 := hid hk1
    have HS1 := hid (show (insertionSort (ltOf hrI) d 0 20).size = d0.size from (size_insOuter 0 20 _ _ d rfl).trans (unhid HS))
    clear hk1
    go_wp2_with fail
    rw [rounds_succ]
    go_wp2_with fail
    refine (insertion_calls (unhid HR) cap 20 d0.size _ _ _ w1 (unhid HK1) (unhid HS1) (unhid HL).1 (Nat.le_refl _) (by have := unhid HL; omega) rfl rfl).mono ?_
    rintro e w2 ⟨rfl, hk2⟩
    have ht := unhid HT
    rw [unhid HS] at ht
    obtain ⟨d2, hd2⟩ : ∃ d2, d2 = insertionSort (ltOf hrI) (insertionSort (ltOf hrI) d 0 20) 20 d0.size := ⟨_, rfl⟩
    rw [← hd2] at ht hk2
    have HK2 := hid hk2
    have HT := hid ht
    clear hk2 ht hd2 HK1 HS1
    by_cases he : d0.size = 20
    · have c2 : ¬ (20 : Int) < (d0.size : Int) := by omega
      have HP := hid (show StPost w0 blk off d (.returned (.tuple #[])) w2 from ⟨rfl, d2, ⟨by rw [unhid HS]; exact (unhid HT).1, fun i j hij hj => ((unhid HT).2.edge (.inr he.symm)).asc i j (Nat.zero_le _) hij (by rw [← unhid HS]; exact hj)⟩, unhid HK2⟩)
      clear he
      go_wp2_with fail
      refine wp_loop_rounds 1 ?_
      rw [rounds_succ]
      go_wp2_with fail
      go_end0
      exact unhid HP
    · have c2 : (20 : Int) < (d0.size : Int) := by have := unhid HL; omega
      have c4 : ¬ (40 : Int) < (d0.size : Int) := by omega
      have HLT := hid (show 20 < d0.size from by have := unhid HL; omega)
      clear he
      go_wp2_with fail
      refine wp_loop_rounds 2 ?_
      rw [rounds_succ]
      go_wp2_with fail
      refine wp_loop_rounds 1 ?_
      rw [rounds_succ]
      go_wp2_with fail
      refine (symMerge_calls (unhid HR) hlt_strict cap (by have := unhid HL; omega) d0.size 0 20 d0.size _ _ _ d2 w2 (by omega) rfl rfl rfl (unhid HK2) ((unhid HT).1.1.trans (unhid HS)) (by omega) (unhid HLT) (Nat.le_refl _) (unhid HT).2).mono ?_
      rintro e w3 ⟨rfl, d3, ho, hk3⟩
      have HP := hid (show StPost w0 blk off d (.returned (.tuple #[])) w3 from ⟨rfl, d3, ⟨by rw [unhid HS]; exact permIn_trans _ _ _ _ _ (unhid HT).1 ho.perm, fun i j hij hj => ho.asc i j (Nat.zero_le _) hij (by rw [← unhid HS]; exact hj)⟩, hk3⟩)
      clear ho hk3
      go_wp2_with fail
      rw [rounds_succ]
      go_wp2_with fail
      go_end0
      exact unhid HP

set_option maxHeartbeats 4000000 in
set_option maxRecDepth 100000 in
theorem stableNil_calls (p : Option Addr) (cap : Nat) (fv : Value) (w : World) :
    Calls Try.prog 146 #[.slice p 0 cap, .int .i64 0, fv] w fun e w' => e = .returned (.tuple #[]) ∧ w' = w := by
  have hi := AnyF.insertionSortCmpFunc_none (P := Try.prog) { Try.sortRec with } p cap fv w
  change Calls Try.prog 127 _ _ _ at hi
  have HI := hid hi
  clear hi
  go_enter Try.func146, Try.ntmps146
  go_wp2_with fail
  refine wp_loop_rounds 1 ?_
  rw [rounds_succ]
  go_wp2_with fail
  refine (unhid HI).mono ?_
  rintro e w1 ⟨rfl, rfl⟩
  go_wp2_with fail
  refine wp_loop_rounds 1 ?_
  rw [rounds_succ]
  go_wp2_with fail
  go_end0
  exact ⟨rfl, rfl⟩

def SsPost (w : World) (base : Nat) (v : Value) (l : List Rc) (e : Ending) (w' : World) : Prop :=
  e = .returned (.tuple #[]) ∧ ∃ L : List Rc, L.Perm l ∧ L.Pairwise (fun a b => hlt a b = true) ∧ w'.ownsRow base 33 14 v L.length (recs L) ∧ w.grownBy w' v.ownBlock
theorem ascA_of {l : List Rc} (hv : ∀ r ∈ l, rcB r = true) (hA : Asc l) : AscA l.toArray := by
  refine ⟨fun i hi => ?_, fun i j hij hj => ?_⟩
  · rw [getElem!_pos l.toArray i hi]
    exact hv _ (by simp)
  · have hj' : j < l.length := by simpa using hj
    rw [getElem!_pos l.toArray i (by simp; omega), getElem!_pos l.toArray j hj]
    simpa using List.pairwise_iff_getElem.1 hA i j (by omega) hj' hij
set_option maxHeartbeats 4000000 in
set_option maxRecDepth 100000 in
theorem sortStable_calls (l : List Rc) (hv : ∀ r ∈ l, rcB r = true) (hA : Asc l) (hl : l.length < 40) (v : Value) (base : Nat) (w : World) (hown : w.ownsRow base 33 14 v l.length (recs l)) :
    Calls Try.prog 115 #[v, .func (.func 116) #[] #[]] w fun e w' => SsPost w base v l e w' := by
  have hown0 := hown
  obtain ⟨hlen, hform⟩ := hown
  by_cases h0 : l.length = 0
  · have hl0 : l = [] := List.eq_nil_of_length_eq_zero h0
    subst hl0
    have HE := hid (show ∀ w', w' = w → SsPost w base v [] (.returned (.tuple #[])) w' from fun w' e => by
      subst e
      exact ⟨rfl, [], List.Perm.nil, List.Pairwise.nil, hown0, World.grownBy.refl w' _⟩)
    obtain ⟨A, c, rfl, -, -⟩ := own_slice hown0
    have HN := hid (stableNil_calls A c (.func (.func 116) #[] #[]) w)
    clear hown0 hlen hform hA hv h0 hl
    change Calls Try.prog 115 #[.slice A 0 c, _] w _
    go_enter Try.func115, Try.ntmps115
    go_wp2_with fail
    refine (unhid HN).mono ?_
    rintro e w1 ⟨rfl, rfl⟩
    go_wp2_with fail
    go_end0
    exact unhid HE _ rfl
  · rcases hform with ⟨_, hn⟩ | ⟨b, cap, cur, rfl, hb, hh, hnc, hcap, hcs, htk⟩
    · exact absurd hn h0
    · have hblk : b < w.heap.size := (Array.getElem?_eq_some_iff.1 hh).1
      have hcur : l.length * 14 ≤ cur.size := by rw [hcs]; exact Nat.mul_le_mul_right 14 hnc
      have hF : (flatK rcC 14 l.toArray).toList = recs l := flatK_list rcC 14 (fun _ => rfl) l
      have hHolds : HoldsK rcC 14 w b 0 l.toArray := by
        intro j hj
        have hj' : j < l.length * 14 := by simpa using hj
        have hc1 : cur[j]? = (flatK rcC 14 l.toArray)[j]? := by
          rw [← Array.getElem?_toList, ← Array.getElem?_toList, hF, ← htk, List.getElem?_take_of_lt hj']
        refine ⟨?_, by simp [World.frozen?, hh]⟩
        rw [Nat.zero_add, cell_of_row w b j cur _ (0, 0) hh, hc1, Array.getElem?_eq_getElem hj, getElem!_pos (flatK rcC 14 l.toArray) j hj]; rfl
      have hR : RowK rcC 14 w b 0 l.toArray := ⟨fun _ => rfl, fun x v hv => rcC_one (l := [x]) v (by simpa [recs] using hv), hHolds, hblk⟩
      have hsz0 : l.toArray.size = l.length := by simp
      have hs := stable_calls hR cap l.toArray w (SWK.start hHolds) rfl (ascA_of hv hA) (by simpa using hl)
      rw [hsz0] at hs
      have hs2 : Calls Try.prog 146 #[.slice (some ⟨b, 0, none⟩) l.length cap, .int .i64 (l.length : Nat), .func (.func 116) #[] #[]] w fun e w' => SsPost w base (.slice (some ⟨b, 0, none⟩) l.length cap) l e w' := by
        refine hs.mono fun e' w' ⟨he, d', ho, hk⟩ => ⟨he, d'.toList, ?_, ?_, ?_, ?_⟩
        · have h3 := ho.perm.2.2
          have hsz : d'.size = l.length := by simpa using ho.perm.1
          have e1 : (d'.extract 0 l.toArray.size).toList = d'.toList := by rw [show l.toArray.size = d'.size by simp [hsz], Array.extract_size]
          have e2 : (l.toArray.extract 0 l.toArray.size).toList = l := by rw [Array.extract_size]
          rw [e1, e2] at h3
          exact h3
        · have hsz : d'.size = l.length := by simpa using ho.perm.1
          rw [List.pairwise_iff_getElem]
          intro i j hi hj hij
          have h4 := ho.asc i j hij (by simpa [hsz] using hj)
          rw [getElem!_pos d' i (by simpa using hi), getElem!_pos d' j (by simpa using hj)] at h4
          simpa using h4
        · obtain ⟨n, os, hw⟩ := hk
          have hsz : d'.size = l.length := by simpa using ho.perm.1
          have hflat : (flatK rcC 14 d').toList = recs d'.toList := by
            have := flatK_list rcC 14 (fun _ => rfl) d'.toList
            show _ = List.flatMap rcC d'.toList
            simpa using this
          refine ⟨by rw [recs_len], Or.inr ⟨b, cap, putCells id 0 (flatK rcC 14 d') cur, by simp [hsz], hb, ?_, by simpa [hsz] using hnc, hcap, ?_, ?_⟩⟩
          · rw [hw]
            show ((w.heap.modify b _) ++ os)[b]? = _
            rw [Array.getElem?_append_left (by simpa using hblk), Array.getElem?_modify, if_pos rfl, hh]
            rfl
          · simp [putCells, hcs]
          · have := putCells_take (flatK rcC 14 d') cur (by simpa [hsz] using hcur)
            rw [← hflat, ← this]
            congr 1
            simp [hsz]
        · obtain ⟨n, os, hw⟩ := hk
          rw [hw]
          exact sortWorldK_grownBy rcC 14 w b n d' os
      have HS := hid hs2
      clear hs hs2 hR hHolds hF hcur hcs htk hh hown0 hlen hA hv h0
      go_enter Try.func115, Try.ntmps115
      go_wp2_with fail
      refine (unhid HS).mono ?_
      rintro e w1 hp
      have HP := hid hp
      obtain ⟨rfl, -⟩ := hp
      go_wp2_with fail
      go_end0
      exact unhid HP
end

section
open Go.RowKit Go.Shelf Go.Sort

theorem run_clear_k {P : Program} {n : Nat} (w : World) (t e ty : TypeId) (cells : Array Value) (ht : P.underlying t = some (.slice e)) (hv : ∀ w, (zeroValue e).run P w = .ok (.agg cells) w) (h1 : ∀ v ∈ (Builtin.zeroCells cells n).toList, v.oneCell' = true) (b o c : Nat) (hn : 0 < n)
    (hc : ∀ j, j < (Builtin.zeroCells cells n).toList.length → (w.cell? ⟨b, o + j, none⟩).isSome = true) (hf : ∀ j, j < (Builtin.zeroCells cells n).toList.length → w.frozen? ⟨b, o + j, none⟩ = false) :
    (Builtin.clear_ #[t] ty #[.slice (some ⟨b, o, none⟩) n c]).run P w = .ok (.tuple #[]) (w.setCells b o (Builtin.zeroCells cells n).toList) := by
  have hst := run_storeCells_cells (P := P) b o (Builtin.zeroCells cells n).toList 0 w (by simpa using hc) (by simpa using hf) h1
  simp only [Nat.add_zero] at hst
  obtain ⟨m, rfl⟩ : ∃ m, n = m + 1 := ⟨n - 1, by omega⟩
  simp [Builtin.clear_, run_underlying ht, hv, Value.cells, hst]
end

section
open Go.RowKit Go.Shelf Go.Sort

/-- The records of a sign. -/
def keepS (l : List Rc) (s : Int) : List Rc := l.filter fun r => decide (r.sign = s)
theorem keepS_len (l : List Rc) (s : Int) : (keepS l s).length ≤ l.length := List.length_filter_le _ _
theorem keepS_go {l : List Rc} {s : Int} {j : Nat} (hj : j < l.length) (h : l[j].sign = s) : keepS (l.take (j + 1)) s = keepS (l.take j) s ++ [l[j]] := by
  unfold keepS
  rw [List.take_succ_eq_append_getElem hj, List.filter_append]
  simp [h]
theorem keepS_no {l : List Rc} {s : Int} {j : Nat} (hj : j < l.length) (h : l[j].sign ≠ s) : keepS (l.take (j + 1)) s = keepS (l.take j) s := by
  unfold keepS
  rw [List.take_succ_eq_append_getElem hj, List.filter_append]
  simp [h]
theorem keepS_all {l : List Rc} {s : Int} {k : Nat} (h : ∀ j (h : j < l.length), j < k → l[j].sign = s) : keepS (l.take k) s = l.take k := by
  unfold keepS
  rw [List.filter_eq_self]
  intro r hr
  obtain ⟨j, hj, e⟩ := List.getElem_of_mem hr
  rw [List.length_take] at hj
  rw [List.getElem_take] at e
  exact decide_eq_true (e ▸ h j (by omega) (by omega))

theorem zero_one (n : Nat) : ∀ v ∈ (Builtin.zeroCells (rcA rc0) n).toList, v.oneCell' = true := by
  intro v hv
  simp only [Builtin.zeroCells, Array.toList_map, List.mem_map] at hv
  obtain ⟨i, -, rfl⟩ := hv
  have h : i % (rcA rc0).size < 14 := Nat.mod_lt _ (by decide)
  generalize i % (rcA rc0).size = q at h
  match q, h with
  | 0, _ => rfl
  | 1, _ => rfl
  | 2, _ => rfl
  | 3, _ => rfl
  | 4, _ => rfl
  | 5, _ => rfl
  | 6, _ => rfl
  | 7, _ => rfl
  | 8, _ => rfl
  | 9, _ => rfl
  | 10, _ => rfl
  | 11, _ => rfl
  | 12, _ => rfl
  | 13, _ => rfl
structure DlI (w : World) (g cap : Nat) (l : List Rc) (s : Int) (i j : Nat) (dk : List Rc) (wr : World) : Prop where
  ij : i < j ∧ j ≤ l.length
  row : RowG wr g cap dk
  len : dk.length = l.length
  low : dk.take i = keepS (l.take j) s
  high : dk.drop j = l.drop j
  gr : w.grownBy wr (some g)
section
variable {w wr w' : World} {g cap i j : Nat} {l dk : List Rc} {s : Int}
theorem DlI.below (h : DlI w g cap l s i j dk wr) (hb : Below wr.heap.size wr w') : DlI w g cap l s i j dk w' := ⟨h.ij, h.row.below hb, h.len, h.low, h.high, h.gr.trans (grown_of_below hb _)⟩
theorem DlI.at (h : DlI w g cap l s i j dk wr) (hj : j < l.length) (hj2 : j < dk.length) : dk[j] = l[j] := by
  have h1 := congrArg (fun z => z[0]?) h.high
  simpa [List.getElem?_drop, List.getElem?_eq_getElem hj, List.getElem?_eq_getElem hj2] using h1
theorem DlI.skip (h : DlI w g cap l s i j dk wr) (hj : j < l.length) (hs : l[j].sign ≠ s) : DlI w g cap l s i (j + 1) dk wr :=
  ⟨⟨by have := h.ij; omega, hj⟩, h.row, h.len, by rw [keepS_no hj hs]; exact h.low, by
    have := congrArg (List.drop 1) h.high
    rwa [List.drop_drop, List.drop_drop] at this, h.gr⟩
theorem DlI.keep (h : DlI w g cap l s i j dk wr) (hj : j < l.length) (hs : l[j].sign = s) (hr : RowG w' g cap (dk.set i l[j])) (hg : wr.grownBy w' (some g)) : DlI w g cap l s (i + 1) (j + 1) (dk.set i l[j]) w' := by
  have hij := h.ij
  have hln := h.len
  refine ⟨⟨by omega, hj⟩, hr, by rw [List.length_set]; exact hln, ?_, ?_, h.gr.trans hg⟩
  · rw [keepS_go hj hs, ← h.low, List.take_succ_eq_append_getElem (by rw [List.length_set]; omega), List.getElem_set_self, List.take_set_of_le (by omega)]
  · rw [List.drop_set_of_lt (by omega)]
    have := congrArg (List.drop 1) h.high
    rwa [List.drop_drop, List.drop_drop] at this
end

theorem RowG.there {w : World} {g cap i : Nat} {dk : List Rc} (h : RowG w g cap dk) (hi : i < dk.length) : w.there g (i * 14) 14 := by
  obtain ⟨cur, hh, hs, -⟩ := h.blk
  have hle := h.le
  intro j hj
  exact ⟨by rw [cell_of_row w g (i * 14 + j) cur _ _ hh, Array.getElem?_eq_getElem (by omega)]; rfl, by simp [World.frozen?, hh]⟩
theorem size_rec : (Try.prog.info? 33).map (·.size) = some 14 := by kernel_rfl
def DlPost (w : World) (base : Nat) (v : Value) (l : List Rc) (s : Int) (e : Ending) (w' : World) : Prop :=
  ∃ u, e = .returned u ∧ w'.ownsRow base 33 14 u (keepS l s).length (recs (keepS l s)) ∧ u.ownBlock = v.ownBlock ∧ w.grownBy w' v.ownBlock

set_option maxHeartbeats 4000000 in
set_option maxRecDepth 100000 in
theorem deleteSign_calls (l : List Rc) (s : Int) (v : Value) (base : Nat) {X : Nat} (w : World) (hown : w.ownsRow base 33 14 v l.length (recs l)) (hX : w.cell? ⟨X, 0, none⟩ = some (.int .i64 s)) (hlt : X < w.heap.size) (hXb : X < base) (hl : l.length ≤ 1000000) :
    Calls Try.prog 113 #[v, .func (.func 114) #[] #[.pointer (some ⟨X, 0, none⟩)]] w fun e w' => DlPost w base v l s e w' := by
  obtain ⟨A, c, rfl, hrd, -⟩ := own_slice hown
  have HI := hid (indexSign_calls l s A c w hX hlt hrd hl)
  have HO := hid hown
  have HX := hid (show ∀ W : World, ∀ g, base ≤ g → w.grownBy W (some g) → W.cell? ⟨X, 0, none⟩ = some (.int .i64 s) ∧ X < W.heap.size from fun W g hg hb => ⟨(World.cell?_of_block (hb.block X hlt (fun e => by have := Option.some.inj e; omega))).trans hX, Nat.lt_of_lt_of_le hlt hb.size⟩)
  have HL := hid hl
  clear hown hX hlt hrd hl
  go_enter Try.func113, Try.ntmps113
  go_wp2_with fail
  refine (unhid HI).mono ?_
  rintro e w2 ⟨k, hF, rfl, hb2⟩
  have HF := hid hF
  have HB2 := hid hb2
  clear hF hb2 HI
  by_cases hk : k < l.length
  · rw [if_pos hk]
    have hne : ((k : Int) == -1) = false := beq_eq_false_iff_ne.2 (by omega)
    obtain ⟨g, cap, hv, hg, hrow⟩ := RowG.of (own_below (unhid HO) (unhid HB2)) (fun e => by rw [e] at hk; simp at hk)
    injection hv with hv1 hv2 hv3
    subst hv1 hv3
    have HBG := hid hg
    have HI0 := hid (⟨⟨Nat.lt_succ_self k, hk⟩, hrow, rfl, by
      have h1 := (unhid HF).2.1
      rw [keepS_no hk ((unhid HF).2.2 hk), keepS_all h1], rfl, grown_of_below (unhid HB2) _⟩ : DlI w g c l s k (k + 1) l w2)
    have hkn : k < 1000000 := Nat.lt_of_lt_of_le hk (unhid HL)
    clear hrow hg hk
    go_wp2_with fail
    go_loopw [5, 6] (fun s5 s6 wr => ∃ (i j : Nat) (dk : List Rc), s5 = .int .i64 i ∧ s6 = .int .i64 j ∧ DlI w g c l s i j dk wr) (fun _ s6 _ => l.length - (intOf s6).toNat)
    case atStart => exact ⟨k, k + 1, l, rfl, by go_num, unhid HI0⟩
    case round =>
      obtain ⟨i, j, dk, rfl, rfl, hi⟩ := hrel
      have HI := hid hi
      clear hi HI0
      have hij : i < j ∧ j ≤ l.length := (unhid HI).ij
      by_cases hlt : j < l.length
      · have hji : (j : Int) < (l.length : Int) := by omega
        have hjn : j < 1000000 := Nat.lt_of_lt_of_le hlt (unhid HL)
        have hjd : j < dk.length := by rw [(unhid HI).len]; exact hlt
        have hid_ : i < dk.length := by omega
        obtain ⟨x, hx⟩ : ∃ x, l[j] = x := ⟨_, rfl⟩
        have hxd : dk[j] = x := ((unhid HI).at hlt hjd).trans hx
        obtain ⟨b, off, hAe, hbl, hc⟩ := (unhid HI).row.rd (recs_ne hjd)
        injection hAe with hAe
        injection hAe with hb1 hb2 hb3
        subst hb1 hb2
        obtain ⟨m0, m1, m2, m3, m4, m5, m6, m7, m8, m9, m10, m11, m12, m13⟩ := recs_cells hc hjd hxd
        simp only [Nat.zero_add] at m0 m1 m2 m3 m4 m5 m6 m7 m8 m9 m10 m11 m12 m13
        have HXX := hid hx
        clear hx hxd hc hbl
        go_upto_region 8 with (fail)
        change Code.wp _ _ _ _ (wr.alloc (.cells (rcA x) 33))
        have hb0 := below_alloc wr (.cells (rcA x) 33)
        have HXA := hid (RcAt.new wr x)
        have HI := hid ((unhid HI).below hb0)
        clear m0 m1 m2 m3 m4 m5 m6 m7 m8 m9 m10 m11 m12 m13 hb0
        obtain ⟨Y, hY⟩ : ∃ Y, Y = wr.heap.size := ⟨_, rfl⟩
        rw [← hY] at HXA ⊢
        clear hY
        generalize wr.alloc (.cells (rcA x) 33) = W1 at *
        obtain ⟨c0, c1, c2, c3, c4, c5⟩ := (unhid HXA).cells
        obtain ⟨e0, e1, e2, e3, e4, e5, e6, e7⟩ := (unhid HXA).seen8
        have HC := hid (signOf_calls x s W1 ((unhid HX) _ g (unhid HBG) (unhid HI).gr).1 ((unhid HX) _ g (unhid HBG) (unhid HI).gr).2)
        go_wp2_with fail
        refine (unhid HC).mono ?_
        rintro e w5 ⟨rfl, hb5⟩
        have HXA := hid ((unhid HXA).below hb5 (unhid HXA).lt)
        have HI := hid ((unhid HI).below hb5)
        clear hb5 HC c0 c1 c2 c3 c4 c5 e0 e1 e2 e3 e4 e5 e6 e7
        by_cases hs : x.sign = s
        · have hse : (x.sign != s) = false := by simpa using hs
          obtain ⟨c0, c1, c2, c3, c4, c5⟩ := (unhid HXA).cells
          obtain ⟨e0, e1, e2, e3, e4, e5, e6, e7⟩ := (unhid HXA).seen8
          obtain ⟨-, hrow, hgr⟩ := (unhid HI).row.store hid_ x
          have HN := hid ((unhid HI).keep hlt ((unhid HXX).symm ▸ hs) ((unhid HXX).symm ▸ hrow) hgr)
          have HT := hid ((unhid HI).row.there hid_)
          clear hrow hgr hs
          have hfz : ∀ t, w5.frozen? ⟨g, t, none⟩ = false := by
            obtain ⟨cur, hh, -, -⟩ := (unhid HI).row.blk
            intro t
            simp [World.frozen?, hh]
          obtain ⟨y, hy⟩ : ∃ y, dk[i] = y := ⟨_, rfl⟩
          obtain ⟨b, off, hAe, hbl, hc⟩ := (unhid HI).row.rd (recs_ne hid_)
          injection hAe with hAe
          injection hAe with hb1 hb2 hb3
          subst hb1 hb2
          obtain ⟨m0, m1, m2, m3, m4, m5, m6, m7, m8, m9, m10, m11, m12, m13⟩ := recs_cells hc hid_ hy
          simp only [Nat.zero_add] at m0 m1 m2 m3 m4 m5 m6 m7 m8 m9 m10 m11 m12 m13
          clear hy hc hbl
          go_wp2_with fail
          go_roundw
          case rel => exact ⟨i + 1, j + 1, _, by go_num, by go_num, unhid HN⟩
          case measure => simp [intOf]; omega
        · have hse : (x.sign != s) = true := by simpa using hs
          have HN := hid ((unhid HI).skip hlt ((unhid HXX).symm ▸ hs))
          clear hs
          go_wp2_with fail
          go_roundw
          case rel => exact ⟨i, j + 1, dk, rfl, by go_num, unhid HN⟩
          case measure => simp [intOf]; omega
      · obtain rfl : j = l.length := by omega
        have hnn : ¬ (l.length : Int) < (l.length : Int) := by omega
        have hil : i < l.length := by omega
        have hlm : l.length ≤ 1000000 := unhid HL
        obtain ⟨cur, hh, hcs, -⟩ := (unhid HI).row.blk
        have hdl : dk.length = l.length := (unhid HI).len
        have hdc := (unhid HI).row.le
        have hct := (unhid HI).row.top
        have hzl : (Builtin.zeroCells (rcA rc0) (l.length - i)).toList.length = (l.length - i) * 14 := by
          rw [Array.length_toList, size_zeroCells]
          rfl
        have hcl : ∀ ty, (Builtin.clear_ #[22] ty #[.slice (some ⟨g, i * 14, none⟩) (l.length - i) (c - i)]).run Try.prog wr = .ok (.tuple #[]) (wr.setCells g (i * 14) (Builtin.zeroCells (rcA rc0) (l.length - i)).toList) := fun ty =>
          run_clear_k wr 22 33 ty (rcA rc0) Try.underlying22 zero_rc (zero_one _) g (i * 14) (c - i) (by omega)
            (fun t ht => by
              rw [hzl] at ht
              rw [cell_of_row wr g (i * 14 + t) cur _ _ hh, Array.getElem?_eq_getElem (by rw [hcs]; omega)]
              rfl)
            (fun t _ => by simp [World.frozen?, hh])
        obtain ⟨hw1, hw2⟩ := (unhid HI).row.wipe (n := 0) (i := i) (by omega) (Builtin.zeroCells (rcA rc0) (l.length - i)).toList
        have hlow := (unhid HI).low
        rw [List.take_length] at hlow
        rw [hlow] at hw1
        have HG := hid ((unhid HI).gr.trans hw2)
        have HW1 := hid hw1
        have hlk : (keepS l s).length = i := by
          rw [← hlow, List.length_take]
          omega
        have HLK := hid hlk
        generalize wr.setCells g (i * 14) (Builtin.zeroCells (rcA rc0) (l.length - i)).toList = W5 at *
        clear hzl hw1 hw2 hlow hlk hh hcs hdl
        have hic : (i : Int) ≤ (l.length : Int) := by omega
        have hlc : (l.length : Int) ≤ (c : Int) := by have := (unhid HI).len; omega
        have hown := (unhid HW1).own (unhid HBG)
        rw [unhid HLK] at hown
        have HP := hid (show DlPost w base (.slice (some ⟨g, 0, none⟩) l.length c) l s (.returned (.slice (some ⟨g, 0, none⟩) i c)) W5 from ⟨_, rfl, by rw [unhid HLK]; exact hown, rfl, unhid HG⟩)
        clear hown
        go_wp2_with fail
        go_ret
        exact unhid HP
  · rw [if_neg hk]
    obtain rfl : k = l.length := by have := (unhid HF).1; omega
    have HE := hid (show keepS l s = l from by
      have := keepS_all (unhid HF).2.1
      rwa [List.take_length] at this)
    have HP := hid (show DlPost w base (.slice A l.length c) l s (.returned (.slice A l.length c)) w2 from ⟨_, rfl, by rw [unhid HE]; exact own_below (unhid HO) (unhid HB2), rfl, grown_of_below (unhid HB2) _⟩)
    clear hk
    go_wp2_with fail
    go_ret
    exact unhid HP
end

section
open Go.RowKit Go.Shelf Go.Sort

/-- The records of a sign that count, by hour, and of one hour in their order. -/
def HisIs (L : List Rc) (s : Int) (H : List Rc) : Prop := H.Perm (keepS (cntL L) s) ∧ H.Pairwise fun a b => hlt a b = true
theorem hisIs_eq {L : List Rc} {s : Int} {H K : List Rc} (h1 : HisIs L s H) (h2 : HisIs L s K) : H = K := by
  have hp : H.Perm K := h1.1.trans h2.1.symm
  exact hp.eq_of_pairwise (fun a b _ _ h3 h4 => by
    have := hlt_trans h3 h4
    rw [hlt_irr] at this
    cases this) h1.2 h2.2
theorem HisIs.len {L : List Rc} {s : Int} {H : List Rc} (h : HisIs L s H) : H.length ≤ L.length := by
  rw [h.1.length_eq]
  exact Nat.le_trans (keepS_len _ _) (List.length_filter_le _ _)
def HisPost (w : World) (L : List Rc) (s : Int) (e : Ending) (w' : World) : Prop := ∃ v H, e = .returned (.tuple #[v, .int .i64 0]) ∧ HisIs L s H ∧ w'.ownsRow w.heap.size 33 14 v H.length (recs H) ∧ Below w.heap.size w w'

set_option maxHeartbeats 4000000 in
set_option maxRecDepth 100000 in
theorem historyNo_calls (s : Int) (hs : btw 1 s 1000000000 = false) {B m : Nat} {S : List Rc} (w : World) (h : BkAt w B m S) :
    Calls Try.prog 102 #[.pointer (some ⟨B, 0, none⟩), .int .i64 s] w fun e w' => e = .returned (.tuple #[.slice none 0 0, .int .i64 2]) ∧ Below w.heap.size w w' := by
  have hb0 := below_alloc w (.cells #[.int .i64 s] 3)
  have HK := hid (h.below' hb0)
  have HB := hid hb0
  have hX : (w.alloc (.cells #[.int .i64 s] 3)).cell? ⟨w.heap.size, 0, none⟩ = some (.int .i64 s) := cell_of_row _ w.heap.size 0 _ _ _ (heap_alloc_new w _)
  clear h hb0
  go_enter Try.func102, Try.ntmps102
  go_upto_region 1 with (fail)
  change Code.wp _ _ _ _ (w.alloc (.cells #[.int .i64 s] 3))
  generalize w.alloc (.cells #[.int .i64 s] 3) = W at *
  go_wp2_with (first | (go_at_call 55; refine (none_calls _ (unhid HK)).mono ?_; rintro e w' ⟨rfl, rfl⟩) | (go_at_call 56; refine (within_calls _ _ _ _).mono ?_; rintro e w' ⟨rfl, rfl⟩))
  go_ret2
  exact ⟨rfl, unhid HB⟩

set_option maxHeartbeats 4000000 in
set_option maxRecDepth 100000 in
theorem history_calls (s : Int) (hs : btw 1 s 1000000000 = true) {B m : Nat} {S L : List Rc} (w : World) (h : BkAt w B m S) (hS : S.length < 40) (hA : Asc L) (hm : ∀ r, r ∈ S ↔ r ∈ L) :
    Calls Try.prog 102 #[.pointer (some ⟨B, 0, none⟩), .int .i64 s] w fun e w' => HisPost w L s e w' := by
  have hb0 := below_alloc w (.cells #[.int .i64 s] 3)
  have HK := hid (h.below' hb0)
  have HV := hid h.v
  have HB := hid hb0
  have hX : (w.alloc (.cells #[.int .i64 s] 3)).cell? ⟨w.heap.size, 0, none⟩ = some (.int .i64 s) := cell_of_row _ w.heap.size 0 _ _ _ (heap_alloc_new w _)
  have HXL := hid (show w.heap.size < (w.alloc (.cells #[.int .i64 s] 3)).heap.size from by simp)
  have HSL := hid hS
  have HA := hid hA
  have HM := hid hm
  clear h hb0 hS hA hm
  go_enter Try.func102, Try.ntmps102
  go_upto_region 1 with (fail)
  change Code.wp _ _ _ _ (w.alloc (.cells #[.int .i64 s] 3))
  obtain ⟨X, hXe⟩ : ∃ X, X = w.heap.size := ⟨_, rfl⟩
  rw [← hXe] at hX HXL ⊢
  have HXE := hid hXe
  clear hXe
  generalize w.alloc (.cells #[.int .i64 s] 3) = W at *
  go_upto_region 3 with (first | (go_at_call 55; refine (none_calls _ (unhid HK)).mono ?_; rintro e w' ⟨rfl, rfl⟩) | (go_at_call 56; refine (within_calls _ _ _ _).mono ?_; rintro e w' ⟨rfl, rfl⟩))
  have HXC := hid hX
  clear hX hs
  go_wp2_with fail
  refine (split_calls W (unhid HK) (by have := unhid HSL; omega)).mono ?_
  rintro e w2 ⟨v, u, L2, rfl, hp, hA2, hv, -, -, hb2⟩
  obtain rfl : L2 = L := asc_eq hA2 (unhid HA) (fun r => by rw [hp.mem_iff, unhid HM r])
  have HLN := hid (show (cntL L2).length < 40 from Nat.lt_of_le_of_lt (List.length_filter_le _ _) (by rw [hp.length_eq]; exact unhid HSL))
  have HCV := hid (show ∀ r ∈ cntL L2, rcB r = true from fun r hr => unhid HV r (hp.mem_iff.1 (List.mem_filter.1 hr).1))
  have HCA := hid (show Asc (cntL L2) from List.Pairwise.filter _ (unhid HA))
  have HX2 := hid (show w2.cell? ⟨X, 0, none⟩ = some (.int .i64 s) ∧ X < w2.heap.size from ⟨(World.cell?_of_block (hb2.block X (unhid HXL))).trans (unhid HXC), Nat.lt_of_lt_of_le (unhid HXL) hb2.size⟩)
  have HVO := hid hv
  have HB2 := hid hb2
  clear hp hA2 hv hb2
  have HD := hid (deleteSign_calls (cntL L2) s v W.heap.size w2 (unhid HVO) (unhid HX2).1 (unhid HX2).2 (unhid HXL) (by have := unhid HLN; omega))
  have HIS := hid (show ∀ H, H.Perm (keepS (cntL L2) s) → (H.Pairwise fun a b => hlt a b = true) → HisIs L2 s H from fun H h1 h2 => ⟨h1, h2⟩)
  generalize cntL L2 = C at *
  go_wp2_with fail
  refine (unhid HD).mono ?_
  rintro e w3 ⟨u2, rfl, hu2, hob, hg3⟩
  have HU2 := hid hu2
  have HG3 := hid hg3
  have HOB := hid hob
  clear hu2 hob hg3 HD
  have HSO := hid (sortStable_calls (keepS C s) (fun r hr => unhid HCV r (List.mem_filter.1 hr).1) (List.Pairwise.filter _ (unhid HCA)) (Nat.lt_of_le_of_lt (keepS_len _ _) (unhid HLN)) u2 W.heap.size w3 (unhid HU2))
  go_wp2_with fail
  refine (unhid HSO).mono ?_
  rintro e w4 ⟨rfl, H, hH1, hH2, hown, hg4⟩
  have HP := hid (show HisPost w L2 s (.returned (.tuple #[u2, .int .i64 0])) w4 from by
    refine ⟨u2, H, rfl, unhid HIS H hH1 hH2, own_base hown (unhid HB).size, ?_⟩
    have hbs : w.heap.size ≤ W.heap.size := (unhid HB).size
    have q1 := (unhid HB).trans ((unhid HB2).mono hbs)
    have q2 := q1.grown (unhid HG3) q1.size (fun j hj => Nat.le_trans hbs (own_block_lt (unhid HVO) hj).1)
    exact q2.grown hg4 q2.size (fun j hj => Nat.le_trans hbs (own_block_lt (unhid HU2) hj).1))
  clear hH1 hH2 hown hg4 HSO
  go_wp2_with fail
  go_ret2
  exact unhid HP
end

section
open Go.RowKit Go.Shelf

/-- The signs of the records that count. -/
noncomputable def signsP (L : List Rc) : List Int := setI ((cntL L).map Rc.sign)
def SgPost (w : World) (L : List Rc) (e : Ending) (w' : World) : Prop := ∃ v, e = .returned v ∧ (signsP L).length ≤ L.length ∧ w'.ownsRow w.heap.size 3 1 v (signsP L).length (ints (signsP L)) ∧ Below w.heap.size w w'
theorem signsP_len (L : List Rc) : (signsP L).length ≤ L.length := by
  unfold signsP
  refine Nat.le_trans (setI_len _) ?_
  rw [List.length_map]
  exact List.length_filter_le _ _
/-- Along the map of cases. -/
structure SgI (w2 : World) (mm N : Nat) (E todo : List ((Int × Int) × Value)) (v : Value) (zs : List Int) (w : World) : Prop where
  rng : GRng caseK w mm N E todo
  own : w.ownsRow (N + 1) 3 1 v zs.length (ints zs)
  mem : ∀ z, z ∈ zs ↔ ∃ f, (z, f) ∈ keysE E ∧ (z, f) ∉ keysE todo
  len : zs.length + todo.length = E.length
  b : Below N w2 w
  e : N = w2.heap.size
  lo : mm < N ∧ N < w.heap.size
section
variable {w2 w w' : World} {mm N : Nat} {E todo : List ((Int × Int) × Value)} {v v' : Value} {zs : List Int}
theorem SgI.next {x : Int × Int} {xv : Value} (h : SgI w2 mm N E todo v zs w) (hx : (x, xv) ∈ todo) (hr : GRng caseK w' mm N E (delE todo x)) (hg : w.grownBy w' (some N)) :
    w'.ownsRow (N + 1) 3 1 v zs.length (ints zs) ∧ Below N w2 w' ∧ zs.length + (delE todo x).length + 1 = E.length := by
  refine ⟨h.own.kept hg ?_, h.b.grown hg (by have := h.lo; omega) (fun j e => by cases e; exact Nat.le_refl _), ?_⟩
  · cases hv : v.ownBlock with
    | none => exact .inl rfl
    | some g => exact .inr (fun e => by have := own_block_lt h.own hv; have := Option.some.inj e; omega)
  · have h1 := len_del h.rng.left.1 x
    rw [if_pos (mem_keysE.2 ⟨xv, hx⟩)] at h1
    have := h.len
    omega
/-- The same, without what is known of the signs. -/
structure SgJ (w2 : World) (mm N : Nat) (E todo : List ((Int × Int) × Value)) (v : Value) (zs : List Int) (w : World) : Prop where
  rng : GRng caseK w mm N E todo
  own : w.ownsRow (N + 1) 3 1 v zs.length (ints zs)
  b : Below N w2 w
  e : N = w2.heap.size
  lo : mm < N ∧ N < w.heap.size
theorem SgJ.below (h : SgJ w2 mm N E todo v zs w) (hb : Below w.heap.size w w') : SgJ w2 mm N E todo v zs w' ∧ w'.rangeLeft mm N = w.rangeLeft mm N :=
  ⟨⟨h.rng.below hb h.rng.map.lt h.rng.lt, own_below h.own hb, h.b.trans (hb.mono (by have := h.lo; omega)), h.e, h.lo.1, Nat.lt_of_lt_of_le h.lo.2 hb.size⟩, GRng.left_kept (hb.block mm h.rng.map.lt) (hb.block N h.rng.lt)⟩
theorem SgJ.push {x : Int} {tmp : Obj} (h : SgJ w2 mm N E todo v zs w) (hown : w'.ownsRow (N + 1) 3 1 v' (zs.length + 1) (ints zs ++ [.int .i64 x])) (hg : (w.alloc tmp).grownBy w' v.ownBlock) : SgJ w2 mm N E todo v' (zs ++ [x]) w' ∧ w'.rangeLeft mm N = w.rangeLeft mm N := by
  have hne : ∀ k, k ≤ N → some k ≠ v.ownBlock := fun k hk e => by have := own_block_lt h.own e.symm; omega
  have hb := below_alloc w tmp
  have hlo := h.lo
  have e1 : ∀ k, k ≤ N → w'.heap[k]? = w.heap[k]? := fun k hk => (hg.block k (Nat.lt_of_lt_of_le (by omega) hb.size) (hne k hk)).trans (hb.block k (by omega))
  refine ⟨⟨h.rng.block (e1 mm (by omega)) (e1 N (Nat.le_refl _)), by rw [List.length_append, ints_append]; exact hown, (h.b.alloc (by omega) tmp).grown hg (by simp; omega) (fun j hj => by have := own_block_lt h.own hj; omega), h.e, hlo.1, Nat.lt_of_lt_of_le hlo.2 (Nat.le_trans hb.size hg.size)⟩, GRng.left_kept (e1 mm (by omega)) (e1 N (Nat.le_refl _))⟩
theorem SgJ.i (h : SgJ w2 mm N E todo v zs w) (mem : ∀ z, z ∈ zs ↔ ∃ f, (z, f) ∈ keysE E ∧ (z, f) ∉ keysE todo) (len : zs.length + todo.length = E.length) : SgI w2 mm N E todo v zs w := ⟨h.rng, h.own, mem, len, h.b, h.e, h.lo⟩
theorem mem_sg {x1 x2 : Int} {xv : Value} (h : ∀ z, z ∈ zs ↔ ∃ f, (z, f) ∈ keysE E ∧ (z, f) ∉ keysE todo) (hx : ((x1, x2), xv) ∈ todo) (hE : ((x1, x2), xv) ∈ E) :
    ∀ z, z ∈ zs ++ [x1] ↔ ∃ f, (z, f) ∈ keysE E ∧ (z, f) ∉ keysE (delE todo (x1, x2)) := by
  have hxk : (x1, x2) ∈ keysE todo := mem_keysE.2 ⟨xv, hx⟩
  have hxE : (x1, x2) ∈ keysE E := mem_keysE.2 ⟨xv, hE⟩
  intro z
  rw [List.mem_append, List.mem_singleton, h z]
  constructor
  · rintro (⟨f, h1, h2⟩ | rfl)
    · exact ⟨f, h1, fun h3 => h2 (by rw [mem_keysE_del] at h3; exact h3.1)⟩
    · exact ⟨x2, hxE, fun h3 => by rw [mem_keysE_del] at h3; exact h3.2 rfl⟩
  · rintro ⟨f, h1, h2⟩
    by_cases e : (z, f) = (x1, x2)
    · right
      exact congrArg Prod.fst e
    · left
      exact ⟨f, h1, fun h3 => h2 (by rw [mem_keysE_del]; exact ⟨h3, e⟩)⟩
end

set_option maxHeartbeats 8000000 in
set_option maxRecDepth 100000 in
theorem signs_calls {B m : Nat} {S L : List Rc} (w : World) (h : BkAt w B m S) (hS : S.length ≤ 100000) (hA : Asc L) (hm : ∀ r, r ∈ S ↔ r ∈ L) :
    Calls Try.prog 72 #[.pointer (some ⟨B, 0, none⟩)] w fun e w' => SgPost w L e w' := by
  obtain ⟨i0, hi, hz0, hz1, hz2⟩ := info_parts info_int
  have HC := hid (cases_calls w h (by omega))
  have HSL := hid hS
  have HA := hid hA
  have HM := hid hm
  clear h hS hA hm
  go_enter Try.func72, Try.ntmps72
  go_wp2_with fail
  refine (unhid HC).mono ?_
  rintro e w2 ⟨mm, E, L2, rfl, hE1, hE2, hp, hA2, hmm, hb2⟩
  obtain rfl : L2 = L := asc_eq hA2 (unhid HA) (fun r => by rw [hp.mem_iff, unhid HM r])
  have HE1 := hid hE1
  have HE2 := hid hE2
  have HB2 := hid hb2
  have HLN := hid (show E.length ≤ L2.length ∧ L2.length ≤ 100000 from ⟨Nat.le_trans hE2.len (List.length_filter_le _ _), by rw [hp.length_eq]; exact unhid HSL⟩)
  clear hE1 hE2 hp hA2 hmm hb2 HC
  go_wp2_with (first | (at_range; refine wpList_grange rfl _ 123 rfl 22 Try.underlying123 rfl (unhid HE1) ?_; intro w0 hr0 hg0 hs0) | go_in)
  go_frame
  obtain ⟨N, hN⟩ : ∃ N, N = w2.heap.size := ⟨_, rfl⟩
  rw [← hN] at hr0 ⊢
  have HI0 := hid (⟨hr0, World.ownsRow_nil _ _ _ _, fun z => ⟨fun h => by simp at h, fun ⟨f, h1, h2⟩ => absurd h1 h2⟩, by simp, (below_of_grown hg0).mono (Nat.le_of_eq hN), hN, by have := (unhid HE1).lt; omega, by omega⟩ : SgI w2 mm N E E (.slice none 0 0) [] w0)
  clear hr0 hg0 hs0 hN
  go_loopw [3] (fun ov wr => ∃ (todo : List ((Int × Int) × Value)) (zs : List Int), SgI w2 mm N E todo ov zs wr) (fun _ wr => wr.rangeLeft mm N)
  case atStart => exact ⟨_, _, unhid HI0⟩
  case round =>
    clear HI0
    obtain ⟨todo, zs, hi1⟩ := hrel
    have HI := hid hi1
    clear hi1
    go_wp2_with (first | (at_next; refine wpList_gnext rfl _ rfl rfl (unhid HI).rng ?_ ?_) | go_in)
    · intro hnil
      subst hnil
      have HDL := hid (show zs.length ≤ 1000000 from by have := (unhid HI).len; have := unhid HLN; simp at *; omega)
      have HVP := hid (show setI zs = signsP L2 from by
        unfold signsP
        refine ascI_eq (setI_asc _) (setI_asc _) (fun z => ?_)
        rw [mem_setI, mem_setI, (unhid HI).mem z, List.mem_map]
        constructor
        · rintro ⟨f, h1, -⟩
          obtain ⟨v, hv⟩ := mem_keysE.1 h1
          obtain ⟨r, hr, e1, e2⟩ := (unhid HE2).is _ hv
          exact ⟨r, hr, e1⟩
        · rintro ⟨r, hr, rfl⟩
          exact ⟨r.fld, (unhid HE2).all r hr, by simp [keysE]⟩)
      have hown := (unhid HI).own
      have HB := hid (unhid HI).b
      have HNN := hid (unhid HI).e
      have HNL := hid (unhid HI).lo
      have HS := hid (sortInts_calls zs _ (N + 1) wr hown (unhid HDL))
      have HO := hid (fun j hj => (own_block_lt hown (g := j) hj).1)
      clear hown HI
      go_wp2_with fail
      refine (unhid HS).mono ?_
      rintro e w5 ⟨rfl, hown, hg⟩
      have HB := hid ((unhid HB).grown hg (by have := unhid HNL; omega) (fun j hj => by have := unhid HO j hj; omega))
      have HSZ := hid hg.size
      have hln : zs.length = (zs.mergeSort fun x y => decide (x ≤ y)).length := (List.length_mergeSort _).symm
      rw [hln] at hown
      have HC := hid (compactInts_calls (zs.mergeSort fun x y => decide (x ≤ y)) _ (N + 1) w5 hown (by rw [← hln]; exact unhid HDL))
      rw [compact_set, unhid HVP] at HC
      clear hown hg hln HS
      go_wp2_with fail
      refine (unhid HC).mono ?_
      rintro e w6 ⟨u, rfl, hown, hg⟩
      have HB := hid ((unhid HB).grown hg (by have := unhid HNL; have := unhid HSZ; omega) (fun j hj => by have := unhid HO j hj; omega))
      have HP := hid (show SgPost w L2 (.returned u) w6 from ⟨u, rfl, signsP_len _, own_base hown (by have h1 := (unhid HB2).size; have h2 := unhid HNN; omega), (unhid HB2).trans ((unhid HB).mono (by have h1 := (unhid HB2).size; have h2 := unhid HNN; omega))⟩)
      clear hg hown
      go_wp2_with fail
      go_ret
      exact unhid HP
    · intro x1 x2 xv w1 hx hrg1 hlt1 hg1 hs1 hen
      change (Instr.entry (.pointer (some ⟨N, 0, none⟩))).run Try.prog w1 = .ok (.tuple #[.agg #[.int .i64 x1, .int .i64 x2], xv]) w1 at hen
      have hxE := (unhid HI).rng.left.2 _ hx
      have hnx := (unhid HI).next hx hrg1 hg1
      have HMD := hid (mem_sg (unhid HI).mem hx hxE)
      have HJ := hid (⟨hrg1, hnx.1, hnx.2.1, (unhid HI).e, (unhid HI).lo.1, by have := (unhid HI).lo; omega⟩ : SgJ w2 mm N E (delE todo (x1, x2)) u3 zs w1)
      have HLT := hid hlt1
      have HLEN := hid hnx.2.2
      clear hx hrg1 hlt1 hg1 hs1 hxE hnx HI
      go_upto_region 5 with (fail)
      change Code.wp _ _ _ _ (w1.alloc (.cells #[.int .i64 x1, .int .i64 x2] 119))
      have hb1 := below_alloc w1 (.cells #[.int .i64 x1, .int .i64 x2] 119)
      have hn1 := heap_alloc_new w1 (.cells #[.int .i64 x1, .int .i64 x2] 119)
      have hj := (unhid HJ).below hb1
      have HLT := hid (show (w1.alloc (.cells #[.int .i64 x1, .int .i64 x2] 119)).rangeLeft mm N < wr.rangeLeft mm N from by rw [hj.2]; exact unhid HLT)
      have HJ := hid hj.1
      obtain ⟨X, hX⟩ : ∃ X, X = w1.heap.size := ⟨_, rfl⟩
      rw [← hX] at hn1 ⊢
      have HX := hid hn1
      clear hb1 hn1 hj hX hen
      generalize w1.alloc (.cells #[.int .i64 x1, .int .i64 x2] 119) = W1 at *
      have a0 := cell_of_row W1 X 0 _ _ _ (unhid HX)
      simp only [List.getElem?_toArray, List.getElem?_cons_zero] at a0
      have hy := (unhid HJ).own
      have hlc : zs.length ≤ 100000 := by have := unhid HLEN; have := unhid HLN; omega
      have hsz : N + 1 ≤ W1.heap.size := (unhid HJ).lo.2
      go_wp2_with (at_builtin; refine wpList_append_own _ rfl _ _ 71 rfl (N + 1) 3 i0 (.int .i64 0) 1 8 Try.underlying71 hi hz0 hz1 hz2 rfl (by decide) _ _ _ rfl (hy.alloc _) ⟨W1.heap.size, 0, none⟩ 1 1 [.int .i64 x1] rfl rfl (int_news W1 x1) (by simp [Value.oneCell']) (by unfold maxLen; omega) (by omega) (by simp; omega) ?_; intro v' w6 hown' hgrow hnil)
      have hj := (unhid HJ).push hown' hgrow
      have HLT := hid (show w6.rangeLeft mm N < wr.rangeLeft mm N from by rw [hj.2]; exact unhid HLT)
      have HI := hid (hj.1.i (unhid HMD) (by have := unhid HLEN; rw [List.length_append, List.length_singleton]; omega))
      clear hy hlc hsz hown' hgrow hnil hj a0
      go_wp2_with fail
      go_roundw
      case rel => exact ⟨_, _, unhid HI⟩
      case measure => exact unhid HLT
end

section
open Go.RowKit Go.Shelf

theorem valuesP_len (L : List Rc) (s f : Int) : (valuesP L s f).length ≤ L.length := by
  unfold valuesP valsP
  refine Nat.le_trans (setI_len _) ?_
  rw [List.length_map]
  exact Nat.le_trans (List.length_filter_le _ _) (Nat.le_trans (List.length_filter_le _ _) (List.length_filter_le _ _))
theorem recs_sorted {S L L2 : List Rc} (hp : L2.Perm S) (hA2 : Asc L2) (hA : Asc L) (h : ∀ r, r ∈ S ↔ r ∈ L) : L2 = L := asc_eq hA2 hA (fun r => by rw [hp.mem_iff, h r])
theorem sameRecs_true (l : List Rc) (A A2 : Option Addr) (c c2 : Nat) (w : World) (h1 : Rd w A (recs l)) (h2 : Rd w A2 (recs l)) (hl : l.length ≤ 1000000) :
    Calls Try.prog 17 #[.slice A l.length c, .slice A2 l.length c2] w fun e w' => e = .returned (.bool true) ∧ Below w.heap.size w w' := by
  have h := sameRecords_calls l l A A2 c c2 w h1 h2 hl
  rw [decide_eq_true (rfl : l = l)] at h
  exact h

set_option maxHeartbeats 8000000 in
set_option maxRecDepth 100000 in
theorem heard_calls (s : Int) (hs : btw 1 s 1000000000 = true) {B m B2 m2 : Nat} {L : List Rc} (w : World) (ha : BkAt w B m L) (hb : BkAt w B2 m2 L) (hA : Asc L) (hL : L.length < 40) :
    Calls Try.prog 73 #[.pointer (some ⟨B, 0, none⟩), .pointer (some ⟨B2, 0, none⟩), .int .i64 s] w fun e w' => e = .returned (.bool true) ∧ Below w.heap.size w w' := by
  have HS := hid hs
  have HKA := hid ha
  have HKB := hid hb
  have HA := hid hA
  have HL := hid hL
  clear hs ha hb hA hL
  go_enter Try.func73, Try.ntmps73
  go_upto_region 2 with (fail)
  go_loopw [7] (fun fv wr => ∃ f : Nat, 1 ≤ f ∧ f ≤ 7 ∧ fv = .int .i64 f ∧ Below w.heap.size w wr) (fun fv _ => 7 - (intOf fv).toNat)
  case atStart => exact ⟨1, by omega, by omega, rfl, Below.refl _ _⟩
  case round =>
    obtain ⟨f, hf1, hf7, rfl, hbw⟩ := hrel
    have HB := hid hbw
    clear hbw
    by_cases hlt : f ≤ 6
    · have hfi : (f : Int) ≤ 6 := by omega
      have HFW := hid (show wrap64 ((f : Int) + 1) = ((f + 1 : Nat) : Int) from by unfold wrap64; omega)
      have HFF := hid (show 1 ≤ f + 1 ∧ f + 1 ≤ 7 from by omega)
      have hif : (btw 1 s 1000000000 && btw 1 (f : Int) 6) = true := by
        rw [unhid HS, Bool.true_and]
        exact btw_iff.2 (by omega)
      obtain ⟨xs, hxs⟩ : ∃ xs, xs = valuesP L s (f : Int) := ⟨_, rfl⟩
      have HXL := hid (show xs.length < 40 from by rw [hxs]; exact Nat.lt_of_le_of_lt (valuesP_len _ _ _) (unhid HL))
      have HIF := hid hif
      have HXS := hid hxs
      clear hif hxs
      go_upto_region 4 with (fail)
      go_wp2_with fail
      refine (pvalues_calls s (f : Int) wr ((unhid HKA).below' (unhid HB)) (unhid HA) (by have := unhid HL; omega)).mono ?_
      rintro e w2 ⟨v, rfl, hown, hb2⟩
      simp only [unhid HIF, if_true, ← unhid HXS] at hown ⊢
      obtain ⟨A, c, rfl, hrd, -⟩ := own_slice hown
      have HR1 := hid hrd
      have HB2 := hid ((unhid HB).trans (hb2.mono (unhid HB).size))
      clear hown hrd hb2
      go_wp2_with fail
      refine (pvalues_calls s (f : Int) w2 ((unhid HKB).below' (unhid HB2)) (unhid HA) (by have := unhid HL; omega)).mono ?_
      rintro e w3 ⟨v, rfl, hown, hb3⟩
      simp only [unhid HIF, if_true, ← unhid HXS] at hown ⊢
      obtain ⟨A2, c2, rfl, hrd, -⟩ := own_slice hown
      have HR2 := hid hrd
      have HR1 := hid ((unhid HR1).below hb3)
      have HB := hid ((unhid HB2).trans (hb3.mono (unhid HB2).size))
      clear hown hrd hb3 HB2
      have hnn : ((xs.length : Int) != (xs.length : Int)) = false := by simp
      go_upto_region 9 with (fail)
      clear hnn
      go_loopw [12] (fun iv w4 => ∃ k : Nat, k ≤ xs.length ∧ iv = .int .i64 k ∧ Rd w4 A (ints xs) ∧ Rd w4 A2 (ints xs) ∧ Below w.heap.size w w4) (fun iv _ => xs.length - (intOf iv).toNat)
      case atStart => exact ⟨0, Nat.zero_le _, rfl, unhid HR1, unhid HR2, unhid HB⟩
      case round =>
        clear HR1 HR2 HB
        obtain ⟨k, hk, rfl, hr1, hr2, hb⟩ := hrel
        have HR1 := hid hr1
        have HR2 := hid hr2
        have HB := hid hb
        clear hr1 hr2 hb
        by_cases hlt2 : k < xs.length
        · have hki : (k : Int) < (xs.length : Int) := by omega
          obtain ⟨b1, o1, hA1, hbl1, hc1⟩ := (unhid HR1) (ints_ne hlt2)
          obtain ⟨b2, o2, hA2, hbl2, hc2⟩ := (unhid HR2) (ints_ne hlt2)
          subst hA1 hA2
          obtain ⟨x, hx⟩ : ∃ x, xs[k]'hlt2 = x := ⟨_, rfl⟩
          have e1 : wr.cell? ⟨b1, o1 + k, none⟩ = some (.int .i64 x) := by rw [← hx]; exact hc1 k _ (ints_at _ k hlt2)
          have e2 : wr.cell? ⟨b2, o2 + k, none⟩ = some (.int .i64 x) := by rw [← hx]; exact hc2 k _ (ints_at _ k hlt2)
          clear hx hc1 hc2
          have r0 := fun p : After wr => After.cell (by dsimp only; exact hbl1) e1 p
          have q0 := fun p : After wr => After.cell (by dsimp only; exact hbl2) e2 p
          have hne : (x != x) = false := by simp
          have HW1 := hid (show wrap64 ((k : Int) + 1) = ((k + 1 : Nat) : Int) from by have h1 := unhid HXL; unfold wrap64; omega)
          go_upto_region 11 with (fail)
          (refine wp_region_below (by kernel_rfl) (by kernel_rfl) ?_; (repeat (go_big_quiet_step (first | fail))); refine wpQuiet_nil ?_; intro wq hw'; obtain ⟨⟨wq2, hbq⟩, hw''⟩ := hw'; dsimp only at hw''; subst hw'')
          clear r0 q0 e1 e2 hne
          have HR1 := hid ((unhid HR1).below hbq)
          have HR2 := hid ((unhid HR2).below hbq)
          have HB := hid ((unhid HB).trans (hbq.mono (unhid HB).size))
          clear hbq
          go_wp2_with fail
          go_roundw
          case rel => exact ⟨k + 1, by omega, by rw [unhid HW1], unhid HR1, unhid HR2, unhid HB⟩
          case measure => rw [unhid HW1]; simp [intOf]; omega
        · obtain rfl : k = xs.length := by omega
          clear hk hlt2
          go_wp2_with fail
          go_roundw
          case rel => exact ⟨f + 1, (unhid HFF).1, (unhid HFF).2, by first | go_num | rw [unhid HFW], unhid HB⟩
          case measure => first | (simp [intOf]; omega) | (rw [unhid HFW]; simp [intOf]; omega)
    · obtain rfl : f = 7 := by omega
      go_wp2_with fail
      refine (history_calls s (unhid HS) wr ((unhid HKA).below' (unhid HB)) (unhid HL) (unhid HA) (fun r => Iff.rfl)).mono ?_
      rintro e w2 ⟨v, H, rfl, hH, hown, hb2⟩
      obtain ⟨A, c, rfl, hrd, -⟩ := own_slice hown
      have HH := hid hH
      have HR1 := hid hrd
      have HB2 := hid ((unhid HB).trans (hb2.mono (unhid HB).size))
      clear hH hown hrd hb2
      go_wp2_with fail
      refine (history_calls s (unhid HS) w2 ((unhid HKB).below' (unhid HB2)) (unhid HL) (unhid HA) (fun r => Iff.rfl)).mono ?_
      rintro e w3 ⟨v, H2, rfl, hH, hown, hb3⟩
      obtain rfl : H2 = H := hisIs_eq hH (unhid HH)
      have HLH := hid (show H2.length ≤ 1000000 from by have := (unhid HH).len; have := unhid HL; omega)
      obtain ⟨A2, c2, rfl, hrd, -⟩ := own_slice hown
      have HR2 := hid hrd
      have HR1 := hid ((unhid HR1).below hb3)
      have HB := hid ((unhid HB2).trans (hb3.mono (unhid HB2).size))
      clear hH hown hrd hb3 HB2 HH
      go_wp2_with fail
      refine (sameRecs_true H2 A A2 c c2 w3 (unhid HR1) (unhid HR2) (unhid HLH)).mono ?_
      rintro e w4 ⟨rfl, hb4⟩
      have HB := hid ((unhid HB).trans (hb4.mono (unhid HB).size))
      clear hb4
      go_wp2_with fail
      go_ret
      exact ⟨rfl, unhid HB⟩
end

section
open Go.RowKit Go.Shelf

theorem neq_selfF (x : Int × Int) (w : World) : (binOp .neq 56 (.agg #[.int .i64 x.1, .int .i64 x.2]) (.agg #[.int .i64 x.1, .int .i64 x.2])).run Try.prog w = .ok (.bool false) w := by
  obtain ⟨x1, x2⟩ := x
  go_simp

theorem neq_selfC (x : Int × Int) (w : World) : (binOp .neq 119 (.agg #[.int .i64 x.1, .int .i64 x.2]) (.agg #[.int .i64 x.1, .int .i64 x.2])).run Try.prog w = .ok (.bool false) w := by
  obtain ⟨x1, x2⟩ := x
  go_simp

/-- What alike has at hand. -/
structure AlI (w0 : World) (B m B2 m2 : Nat) (L : List Rc) (D F1 : List (Int × Int)) (G1 : List Int) (AD AE AF AG AS AT : Option Addr) (w : World) : Prop where
  ka : BkAt w B m L
  kb : BkAt w B2 m2 L
  d : Rd w AD (fks D)
  e : Rd w AE (fks D)
  f : Rd w AF (fks F1)
  g : Rd w AG (fks F1)
  s : Rd w AS (ints G1)
  t : Rd w AT (ints G1)
  b : Below w0.heap.size w0 w
theorem AlI.below {w0 w w' : World} {B m B2 m2 : Nat} {L : List Rc} {D F1 : List (Int × Int)} {G1 : List Int} {AD AE AF AG AS AT : Option Addr} (h : AlI w0 B m B2 m2 L D F1 G1 AD AE AF AG AS AT w) (hb : Below w.heap.size w w') : AlI w0 B m B2 m2 L D F1 G1 AD AE AF AG AS AT w' :=
  ⟨h.ka.below' hb, h.kb.below' hb, h.d.below hb, h.e.below hb, h.f.below hb, h.g.below hb, h.s.below hb, h.t.below hb, h.b.trans (hb.mono h.b.size)⟩
theorem signsP_btw {L : List Rc} (hv : ∀ r ∈ L, rcB r = true) {s : Int} (h : s ∈ signsP L) : btw 1 s 1000000000 = true := by
  unfold signsP at h
  rw [mem_setI, List.mem_map] at h
  obtain ⟨r, hr, rfl⟩ := h
  exact btw_iff.2 (rc_ok (hv r (List.mem_filter.1 hr).1)).sign

set_option maxHeartbeats 16000000 in
set_option maxRecDepth 100000 in
theorem alike_calls {B m B2 m2 : Nat} {L : List Rc} (w : World) (ha : BkAt w B m L) (hb : BkAt w B2 m2 L) (hA : Asc L) (hL : L.length < 40) :
    Calls Try.prog 35 #[.pointer (some ⟨B, 0, none⟩), .pointer (some ⟨B2, 0, none⟩)] w fun e w' => e = .returned (.bool true) ∧ Below w.heap.size w w' := by
  have HKA := hid ha
  have HKB := hid hb
  have HA := hid hA
  have HL := hid hL
  clear ha hb hA hL
  go_enter Try.func35, Try.ntmps35
  go_wp2_with fail
  refine (records_calls w (unhid HKA) (by have := unhid HL; omega)).mono ?_
  rintro e w1 ⟨v, L2, rfl, hp, hA2, hrow, hb⟩
  obtain rfl : L2 = L := recs_sorted hp hA2 (unhid HA) (fun r => Iff.rfl)
  obtain ⟨Av, cv, rfl, hrd, -⟩ := own_slice hrow
  have HR1 := hid hrd
  have HKA := hid ((unhid HKA).below' hb)
  have HKB := hid ((unhid HKB).below' hb)
  have HB := hid hb
  clear hp hA2 hrow hb hrd
  go_wp2_with fail
  refine (records_calls w1 (unhid HKB) (by have := unhid HL; omega)).mono ?_
  rintro e w2 ⟨v, L3, rfl, hp, hA2, hrow, hb⟩
  obtain rfl : L3 = L2 := recs_sorted hp hA2 (unhid HA) (fun r => Iff.rfl)
  obtain ⟨Aw, cw, rfl, hrd, -⟩ := own_slice hrow
  have HR2 := hid hrd
  have HR1 := hid ((unhid HR1).below hb)
  have HKA := hid ((unhid HKA).below' hb)
  have HKB := hid ((unhid HKB).below' hb)
  have HB := hid ((unhid HB).trans (hb.mono (unhid HB).size))
  clear hp hA2 hrow hb hrd
  go_wp2_with fail
  refine (sameRecs_true L3 Av Aw cv cw w2 (unhid HR1) (unhid HR2) (by have := unhid HL; omega)).mono ?_
  rintro e w3 ⟨rfl, hb⟩
  have HKA := hid ((unhid HKA).below' hb)
  have HKB := hid ((unhid HKB).below' hb)
  have HB := hid ((unhid HB).trans (hb.mono (unhid HB).size))
  clear hb HR1 HR2
  go_wp2_with fail
  refine (pwaiting_calls w3 (unhid HKA) (by have := unhid HL; omega) (unhid HA) (fun r => Iff.rfl)).mono ?_
  rintro e w4 ⟨v, rfl, hrow, hb⟩
  obtain ⟨Av, cv, rfl, hrd, -⟩ := own_slice hrow
  have HR1 := hid hrd
  have HKA := hid ((unhid HKA).below' hb)
  have HKB := hid ((unhid HKB).below' hb)
  have HB := hid ((unhid HB).trans (hb.mono (unhid HB).size))
  clear hrow hb hrd
  go_wp2_with fail
  refine (pwaiting_calls w4 (unhid HKB) (by have := unhid HL; omega) (unhid HA) (fun r => Iff.rfl)).mono ?_
  rintro e w5 ⟨v, rfl, hrow, hb⟩
  obtain ⟨Aw, cw, rfl, hrd, -⟩ := own_slice hrow
  have HR2 := hid hrd
  have HR1 := hid ((unhid HR1).below hb)
  have HKA := hid ((unhid HKA).below' hb)
  have HKB := hid ((unhid HKB).below' hb)
  have HB := hid ((unhid HB).trans (hb.mono (unhid HB).size))
  clear hrow hb hrd
  go_wp2_with fail
  refine (sameRecs_true (waitL L3) Av Aw cv cw w5 (unhid HR1) (unhid HR2) (Nat.le_trans (List.length_filter_le _ _) (by have := unhid HL; omega))).mono ?_
  rintro e w6 ⟨rfl, hb⟩
  have HKA := hid ((unhid HKA).below' hb)
  have HKB := hid ((unhid HKB).below' hb)
  have HB := hid ((unhid HB).trans (hb.mono (unhid HB).size))
  clear hb HR1 HR2
  go_wp2_with fail
  refine (disputes_calls w6 (unhid HKA) (by have := unhid HL; omega) (unhid HA) (fun r => Iff.rfl)).mono ?_
  rintro e w7 ⟨v, D, rfl, hD, hDl, hown, hb⟩
  obtain ⟨AD, cD, rfl, hrd, -⟩ := own_slice hown
  have HD := hid hD
  have HDL := hid hDl
  have HRD := hid hrd
  have HKA := hid ((unhid HKA).below' hb)
  have HKB := hid ((unhid HKB).below' hb)
  have HB := hid ((unhid HB).trans (hb.mono (unhid HB).size))
  clear hD hDl hown hrd hb
  go_wp2_with fail
  refine (disputes_calls w7 (unhid HKB) (by have := unhid HL; omega) (unhid HA) (fun r => Iff.rfl)).mono ?_
  rintro e w8 ⟨v, D2, rfl, hD, -, hown, hb⟩
  obtain rfl : D2 = D := dispIs_eq hD (unhid HD)
  obtain ⟨AE, cE, rfl, hrd, -⟩ := own_slice hown
  have HRE := hid hrd
  have HRD := hid ((unhid HRD).below hb)
  have HKA := hid ((unhid HKA).below' hb)
  have HKB := hid ((unhid HKB).below' hb)
  have HB := hid ((unhid HB).trans (hb.mono (unhid HB).size))
  clear hD hown hrd hb HD
  go_wp2_with fail
  refine (pforks_calls w8 (unhid HKA) (by have := unhid HL; omega) (fun r => Iff.rfl)).mono ?_
  rintro e w9 ⟨v, rfl, hown, hb⟩
  obtain ⟨AF, cF, rfl, hrd, -⟩ := own_slice hown
  have HRF := hid hrd
  have HRD := hid ((unhid HRD).below hb)
  have HRE := hid ((unhid HRE).below hb)
  have HKA := hid ((unhid HKA).below' hb)
  have HKB := hid ((unhid HKB).below' hb)
  have HB := hid ((unhid HB).trans (hb.mono (unhid HB).size))
  clear hown hrd hb
  go_wp2_with fail
  refine (pforks_calls w9 (unhid HKB) (by have := unhid HL; omega) (fun r => Iff.rfl)).mono ?_
  rintro e w10 ⟨v, rfl, hown, hb⟩
  obtain ⟨AG, cG, rfl, hrd, -⟩ := own_slice hown
  have HRG := hid hrd
  have HRD := hid ((unhid HRD).below hb)
  have HRE := hid ((unhid HRE).below hb)
  have HRF := hid ((unhid HRF).below hb)
  have HKA := hid ((unhid HKA).below' hb)
  have HKB := hid ((unhid HKB).below' hb)
  have HB := hid ((unhid HB).trans (hb.mono (unhid HB).size))
  clear hown hrd hb
  go_wp2_with fail
  refine (signs_calls w10 (unhid HKA) (by have := unhid HL; omega) (unhid HA) (fun r => Iff.rfl)).mono ?_
  rintro e w11 ⟨v, rfl, hsl, hown, hb⟩
  obtain ⟨AS, cS, rfl, hrd, -⟩ := own_slice hown
  have HSL := hid hsl
  have HRS := hid hrd
  have HRD := hid ((unhid HRD).below hb)
  have HRE := hid ((unhid HRE).below hb)
  have HRF := hid ((unhid HRF).below hb)
  have HRG := hid ((unhid HRG).below hb)
  have HKA := hid ((unhid HKA).below' hb)
  have HKB := hid ((unhid HKB).below' hb)
  have HB := hid ((unhid HB).trans (hb.mono (unhid HB).size))
  clear hsl hown hrd hb
  go_wp2_with fail
  refine (signs_calls w11 (unhid HKB) (by have := unhid HL; omega) (unhid HA) (fun r => Iff.rfl)).mono ?_
  rintro e w12 ⟨v, rfl, -, hown, hb⟩
  obtain ⟨AT, cT, rfl, hrd, -⟩ := own_slice hown
  have HI := hid (⟨(unhid HKA).below' hb, (unhid HKB).below' hb, (unhid HRD).below hb, (unhid HRE).below hb, (unhid HRF).below hb, (unhid HRG).below hb, (unhid HRS).below hb, hrd, (unhid HB).trans (hb.mono (unhid HB).size)⟩ : AlI w B m B2 m2 L3 D2 (forksP L3) (signsP L3) AD AE AF AG AS AT w12)
  have HFP := hid (show (forksP L3).length ≤ 8 from forkK_len L3 8)
  clear hown hrd hb HRD HRE HRF HRG HRS HKA HKB HB
  obtain ⟨F1, hF1⟩ : ∃ F1, F1 = forksP L3 := ⟨_, rfl⟩
  obtain ⟨G1, hG1⟩ : ∃ G1, G1 = signsP L3 := ⟨_, rfl⟩
  have HGB := hid (show ∀ s ∈ G1, btw 1 s 1000000000 = true from fun s hs => signsP_btw (unhid HI).ka.v (hG1 ▸ hs))
  rw [← hF1, ← hG1] at HI ⊢
  rw [← hF1] at HFP
  rw [← hG1] at HSL
  have HLN := hid (show D2.length ≤ 100 ∧ F1.length ≤ 100 ∧ G1.length ≤ 100 from ⟨by have := unhid HDL; have := unhid HL; omega, by have := unhid HFP; omega, by have := unhid HSL; have := unhid HL; omega⟩)
  clear hF1 hG1 HFP HSL HDL
  have n1 : ((D2.length : Int) != (D2.length : Int)) = false := by simp
  have n2 : ((F1.length : Int) != (F1.length : Int)) = false := by simp
  have n3 : ((G1.length : Int) != (G1.length : Int)) = false := by simp
  go_upto_region 9 with (fail)
  clear n1 n2 n3
  go_loopw [11] (fun iv w4 => ∃ k : Nat, k ≤ D2.length ∧ iv = .int .i64 k ∧ AlI w B m B2 m2 L3 D2 F1 G1 AD AE AF AG AS AT w4) (fun iv _ => D2.length - (intOf iv).toNat)
  case atStart => exact ⟨0, Nat.zero_le _, rfl, unhid HI⟩
  case round =>
    clear HI
    obtain ⟨k, hk, rfl, hi⟩ := hrel
    have HI := hid hi
    clear hi
    by_cases hlt2 : k < D2.length
    · have hki : (k : Int) < (D2.length : Int) := by omega
      obtain ⟨b1, o1, hA1, hbl1, hc1⟩ := (unhid HI).d (fks_ne hlt2)
      obtain ⟨b2, o2, hA2, hbl2, hc2⟩ := (unhid HI).e (fks_ne hlt2)
      obtain ⟨x, hx⟩ : ∃ x, D2[k]'hlt2 = x := ⟨_, rfl⟩
      have C1 := fks_cells hc1 hlt2 hx
      have C2 := fks_cells hc2 hlt2 hx
      have r0 := fun p : After wr => After.cell (by dsimp only; exact hbl1) C1.1 p
      have r1 := fun p : After wr => After.cell (by dsimp only; exact hbl1) C1.2 p
      have q0 := fun p : After wr => After.cell (by dsimp only; exact hbl2) C2.1 p
      have q1 := fun p : After wr => After.cell (by dsimp only; exact hbl2) C2.2 p
      have hne := neq_selfC x
      clear hx hc1 hc2 C1 C2
      have HW1 := hid (show wrap64 ((k : Int) + 1) = ((k + 1 : Nat) : Int) from by have h1 := unhid HLN; unfold wrap64; omega)
      have HK1 := hid (show k + 1 ≤ D2.length from hlt2)
      subst hA1 hA2
      go_upto_region 11 with (fail)
      (refine wp_region_below (by kernel_rfl) (by kernel_rfl) ?_; (repeat (go_big_quiet_step (first | fail))); refine wpQuiet_nil ?_; intro wq hw'; obtain ⟨⟨wq2, hbq⟩, hw''⟩ := hw'; dsimp only at hw''; subst hw'')
      clear r0 r1 q0 q1 hne hbl1 hbl2
      have HI := hid ((unhid HI).below hbq)
      clear hbq
      go_wp2_with fail
      go_roundw
      case rel => exact ⟨k + 1, unhid HK1, by rw [unhid HW1], unhid HI⟩
      case measure => rw [unhid HW1]; simp [intOf]; omega
    · obtain rfl : k = D2.length := by omega
      clear hk hlt2
      go_upto_region 14 with (fail)
      go_loopw [12] (fun iv w4 => ∃ k : Nat, k ≤ F1.length ∧ iv = .int .i64 k ∧ AlI w B m B2 m2 L3 D2 F1 G1 AD AE AF AG AS AT w4) (fun iv _ => F1.length - (intOf iv).toNat)
      case atStart => exact ⟨0, Nat.zero_le _, rfl, unhid HI⟩
      case round =>
        clear HI
        obtain ⟨k, hk, rfl, hi⟩ := hrel
        have HI := hid hi
        clear hi
        by_cases hlt2 : k < F1.length
        · have hki : (k : Int) < (F1.length : Int) := by omega
          obtain ⟨b1, o1, hA1, hbl1, hc1⟩ := (unhid HI).f (fks_ne hlt2)
          obtain ⟨b2, o2, hA2, hbl2, hc2⟩ := (unhid HI).g (fks_ne hlt2)
          obtain ⟨x, hx⟩ : ∃ x, F1[k]'hlt2 = x := ⟨_, rfl⟩
          have C1 := fks_cells hc1 hlt2 hx
          have C2 := fks_cells hc2 hlt2 hx
          have r0 := fun p : After wr => After.cell (by dsimp only; exact hbl1) C1.1 p
          have r1 := fun p : After wr => After.cell (by dsimp only; exact hbl1) C1.2 p
          have q0 := fun p : After wr => After.cell (by dsimp only; exact hbl2) C2.1 p
          have q1 := fun p : After wr => After.cell (by dsimp only; exact hbl2) C2.2 p
          have hne := neq_selfF x
          clear hx hc1 hc2 C1 C2
          have HW1 := hid (show wrap64 ((k : Int) + 1) = ((k + 1 : Nat) : Int) from by have h1 := unhid HLN; unfold wrap64; omega)
          have HK1 := hid (show k + 1 ≤ F1.length from hlt2)
          subst hA1 hA2
          go_upto_region 16 with (fail)
          (refine wp_region_below (by kernel_rfl) (by kernel_rfl) ?_; (repeat (go_big_quiet_step (first | fail))); refine wpQuiet_nil ?_; intro wq hw'; obtain ⟨⟨wq2, hbq⟩, hw''⟩ := hw'; dsimp only at hw''; subst hw'')
          clear r0 r1 q0 q1 hne hbl1 hbl2
          have HI := hid ((unhid HI).below hbq)
          clear hbq
          go_wp2_with fail
          go_roundw
          case rel => exact ⟨k + 1, unhid HK1, by rw [unhid HW1], unhid HI⟩
          case measure => rw [unhid HW1]; simp [intOf]; omega
        · obtain rfl : k = F1.length := by omega
          clear hk hlt2
          go_upto_region 19 with (fail)
          go_loopw [13] (fun iv w4 => ∃ k : Nat, k ≤ G1.length ∧ iv = .int .i64 k ∧ AlI w B m B2 m2 L3 D2 F1 G1 AD AE AF AG AS AT w4) (fun iv _ => G1.length - (intOf iv).toNat)
          case atStart => exact ⟨0, Nat.zero_le _, rfl, unhid HI⟩
          case round =>
            clear HI
            obtain ⟨k, hk, rfl, hi⟩ := hrel
            have HI := hid hi
            clear hi
            by_cases hlt2 : k < G1.length
            · have hki : (k : Int) < (G1.length : Int) := by omega
              obtain ⟨b1, o1, hA1, hbl1, hc1⟩ := (unhid HI).s (ints_ne hlt2)
              obtain ⟨b2, o2, hA2, hbl2, hc2⟩ := (unhid HI).t (ints_ne hlt2)
              obtain ⟨x, hx⟩ : ∃ x, G1[k]'hlt2 = x := ⟨_, rfl⟩
              have HXB := hid (unhid HGB x (hx ▸ List.getElem_mem hlt2))
              have e1 : wr.cell? ⟨b1, o1 + k, none⟩ = some (.int .i64 x) := by rw [← hx]; exact hc1 k _ (ints_at _ k hlt2)
              have e2 : wr.cell? ⟨b2, o2 + k, none⟩ = some (.int .i64 x) := by rw [← hx]; exact hc2 k _ (ints_at _ k hlt2)
              have r0 := fun p : After wr => After.cell (by dsimp only; exact hbl1) e1 p
              have q0 := fun p : After wr => After.cell (by dsimp only; exact hbl2) e2 p
              have hne : (x != x) = false := by simp
              have KS := hid (fun p : After wr => heard_calls x (unhid HXB) p.w ((unhid HI).below p.below).ka ((unhid HI).below p.below).kb (unhid HA) (unhid HL))
              clear hx hc1 hc2
              have HW1 := hid (show wrap64 ((k : Int) + 1) = ((k + 1 : Nat) : Int) from by have h1 := unhid HLN; unfold wrap64; omega)
              have HK1 := hid (show k + 1 ≤ G1.length from hlt2)
              subst hA1 hA2
              go_upto_region 21 with (fail)
              (refine wp_region_below (by kernel_rfl) (by kernel_rfl) ?_; (repeat (go_big_quiet_step (first | (go_at_call 73; exact Calls.after_of ((unhid KS) _))))); refine wpQuiet_nil ?_; intro wq hw'; obtain ⟨⟨wq2, hbq⟩, hw''⟩ := hw'; dsimp only at hw''; subst hw'')
              clear r0 q0 e1 e2 hne hbl1 hbl2 KS
              have HI := hid ((unhid HI).below hbq)
              clear hbq
              go_wp2_with fail
              go_roundw
              case rel => exact ⟨k + 1, unhid HK1, by rw [unhid HW1], unhid HI⟩
              case measure => rw [unhid HW1]; simp [intOf]; omega
            · obtain rfl : k = G1.length := by omega
              have HB := hid (unhid HI).b
              clear hk hlt2 HI
              go_wp2_with fail
              go_ret
              exact ⟨rfl, unhid HB⟩
end

end Go.Proofs.Ytegghimjmbgghaa
