/-
  The codes of the faults of a sign of a row. Plain: no walk. The faults of a sign of a row, by what holds. Plain: no walk. The faults' order; their sort; sameFaults. The faults of both directions: their numbers are all different, so their sorted order is one. Plain: no walk. The reference's Faults: insertion by number. Plain: no walk.
-/
import Derived.Test.YtmpngoejnmlmbaaGreatIdle
import Derived.Test.YtmpngoejnmlmbaaGreatHoldP
import Derived.Test.YtmpngoejnmlmbaaGreatClone
import Derived.Test.YtmpngoejnmlmbaaGreatRowM
set_option linter.unusedSimpArgs false
set_option linter.unusedVariables false
namespace Go.Proofs.YtmpngoejnmlmbaaGreat
open Go.RowKit

section
/-- The sign before number i is a start, and number i is its plate. -/
def mineB (R : List Mt) (i : Nat) : Bool := decide (0 < i) && (match R[i - 1]? with | some m => decide (m.s.kind = 1 ∨ m.s.kind = 3) | none => false) && platedP R (i - 1)
def codeP (n : Int) (e1 e2 : List (Int × Int)) (R : List Mt) (i : Nat) : List Int :=
  match R[i]? with
  | none => []
  | some m =>
    if m.s.kind = 7 then codeL 1 (!mineB R i || decide (n - m.far < m.s.val))
    else if m.s.kind = 6 then codeL 2 (decide (m.far = n) || !decide (atP e1 m.far = m.s.val))
    else if m.s.kind = 2 then codeL 3 (idleB e1 m.far)
    else if m.s.kind = 4 then codeL 3 (idleB e2 m.far)
    else if m.s.kind = 5 then codeL 3 (idleB e1 m.far && idleB e2 m.far)
    else if m.s.kind = 1 ∨ m.s.kind = 3 then codeL 4 (decide (m.far = n))
    else []
def CodesPost (n : Int) (e1 e2 : List (Int × Int)) (R : List Mt) (i : Nat) (w : World) (e : Ending) (w' : World) : Prop :=
  ∃ (A : Option Addr) (c : Nat), e = .returned (.slice A (codeP n e1 e2 R i).length c) ∧ Rd w' A (ints (codeP n e1 e2 R i)) ∧ Below w.heap.size w w'
theorem codesPost_of {n : Int} {e1 e2 : List (Int × Int)} {R : List Mt} {i : Nat} {w w' : World} {L : List Int} {A : Option Addr} {c : Nat} (h : codeP n e1 e2 R i = L) (h1 : Rd w' A (ints L)) (h2 : Below w.heap.size w w') :
    CodesPost n e1 e2 R i w (.returned (.slice A L.length c)) w' := ⟨A, c, by rw [h], by rw [h]; exact h1, h2⟩
theorem codeP_at {n : Int} {e1 e2 : List (Int × Int)} {R : List Mt} {i : Nat} {m : Mt} (h : R[i]? = some m) :
    codeP n e1 e2 R i = if m.s.kind = 7 then codeL 1 (!mineB R i || decide (n - m.far < m.s.val))
    else if m.s.kind = 6 then codeL 2 (decide (m.far = n) || !decide (atP e1 m.far = m.s.val))
    else if m.s.kind = 2 then codeL 3 (idleB e1 m.far)
    else if m.s.kind = 4 then codeL 3 (idleB e2 m.far)
    else if m.s.kind = 5 then codeL 3 (idleB e1 m.far && idleB e2 m.far)
    else if m.s.kind = 1 ∨ m.s.kind = 3 then codeL 4 (decide (m.far = n))
    else [] := by
  unfold codeP; rw [h]
end

section
def endsB (len : Int) (js : List Int) (R : List Mt) (s : Sg) (d : Int) (t : Int) : Bool := endB s t && !decide (holdP len js R s.dir t (d - 1) = 0)
def ridleB (len : Int) (js : List Int) (R : List Mt) (s : Sg) (d : Int) : Bool := decide (d = 0) || (!endsB len js R s d 1 && !endsB len js R s d 2)

/-- The codes of sign number i of a row, by what holds. -/
def codeH (n : Int) (js : List Int) (R : List Mt) (dir : Int) (i : Nat) : List Int :=
  match R[i]? with
  | none => []
  | some m =>
    if m.s.kind = 7 then codeL 1 (!mineB R i || decide (n - m.far < m.s.val))
    else if m.s.kind = 6 then codeL 2 (decide (m.far = n) || !decide (holdP n js R dir 1 m.far = m.s.val))
    else if m.s.kind = 2 ∨ m.s.kind = 4 ∨ m.s.kind = 5 then codeL 3 (ridleB n js R m.s m.far)
    else if m.s.kind = 1 ∨ m.s.kind = 3 then codeL 4 (decide (m.far = n))
    else []
theorem codeH_at {n : Int} {js : List Int} {R : List Mt} {dir : Int} {i : Nat} {m : Mt} (h : R[i]? = some m) :
    codeH n js R dir i = if m.s.kind = 7 then codeL 1 (!mineB R i || decide (n - m.far < m.s.val))
    else if m.s.kind = 6 then codeL 2 (decide (m.far = n) || !decide (holdP n js R dir 1 m.far = m.s.val))
    else if m.s.kind = 2 ∨ m.s.kind = 4 ∨ m.s.kind = 5 then codeL 3 (ridleB n js R m.s m.far)
    else if m.s.kind = 1 ∨ m.s.kind = 3 then codeL 4 (decide (m.far = n))
    else [] := by
  unfold codeH; rw [h]
theorem codeP_codeH {n : Int} {js : List Int} {R : List Mt} {dir : Int} {i : Nat} (hok : RowOk n R) (hd : ∀ m ∈ R, m.s.dir = dir) :
    codeP n (eventsP n js R dir 1) (eventsP n js R dir 2) R i = codeH n js R dir i := by
  unfold codeP codeH
  cases hm : R[i]? with
  | none => rfl
  | some m =>
    dsimp only
    have hmem := List.mem_of_getElem? hm
    have h1 := hok m hmem
    have h2 := hd m hmem
    by_cases k7 : m.s.kind = 7
    · rw [if_pos k7, if_pos k7]
    rw [if_neg k7, if_neg k7]
    by_cases k6 : m.s.kind = 6
    · rw [if_pos k6, if_pos k6]
      by_cases hf : m.far = n
      · simp [hf]
      · rw [at_events hok (by omega)]
    rw [if_neg k6, if_neg k6]
    have hidle : ∀ t, idleB (eventsP n js R dir t) m.far = (decide (m.far = 0) || decide (holdP n js R m.s.dir t (m.far - 1) = 0)) := fun t => by
      unfold idleB
      rw [at_events hok (by omega), h2]
      simp
    by_cases k2 : m.s.kind = 2
    · rw [if_pos k2, if_pos (.inl k2), hidle]
      congr 1
      unfold ridleB endsB endB
      by_cases hz : m.far = 0 <;> simp [hz, k2]
    rw [if_neg k2]
    by_cases k4 : m.s.kind = 4
    · rw [if_pos k4, if_pos (.inr (.inl k4)), hidle]
      congr 1
      unfold ridleB endsB endB
      by_cases hz : m.far = 0 <;> simp [hz, k4]
    rw [if_neg k4]
    by_cases k5 : m.s.kind = 5
    · rw [if_pos k5, if_pos (.inr (.inr k5)), hidle, hidle]
      congr 1
      unfold ridleB endsB endB
      by_cases hz : m.far = 0 <;> simp [hz, k5]
    rw [if_neg k5, if_neg (show ¬ (m.s.kind = 2 ∨ m.s.kind = 4 ∨ m.s.kind = 5) by omega)]
end

section
open Go.RowKit Go.Shelf Go.Sort

/-- A fault: a sign's number and a code. -/
def ftC (f : Int × Int) : List Value := [.int .i64 f.1, .int .i64 f.2]
def fts (l : List (Int × Int)) : List Value := l.flatMap ftC
abbrev FtN := { f : Int × Int // (0 ≤ f.1 ∧ f.1 ≤ 1000000000) ∧ 0 ≤ f.2 ∧ f.2 ≤ 10 }
instance : Inhabited FtN := ⟨⟨(0, 0), by decide⟩⟩
def ftnC (f : FtN) : List Value := ftC f.1
def ftnO (a b : FtN) : Int := orI [a.1.1 - b.1.1, a.1.2 - b.1.2]
theorem ftnO_iff (a b : FtN) : ltOf ftnO a b = true ↔ (a.1.1 < b.1.1 ∨ (a.1.1 = b.1.1 ∧ a.1.2 < b.1.2)) := by
  unfold ltOf ftnO
  rw [decide_eq_true_eq]
  simp only [orI]
  by_cases h : a.1.1 - b.1.1 = 0
  · rw [if_pos h]
    by_cases h2 : a.1.2 - b.1.2 = 0
    · rw [if_pos h2]; omega
    · rw [if_neg h2]; omega
  · rw [if_neg h]; omega
theorem ftnSWO : SWO (ltOf ftnO) where
  irrefl x := by
    cases h : ltOf ftnO x x
    · rfl
    · have := (ftnO_iff x x).1 h; omega
  trans x y z h1 h2 := by
    rw [ftnO_iff] at *; omega
  ntrans x y z h1 h2 := by
    rw [← Bool.not_eq_true, ftnO_iff] at *; omega
theorem growB3 (w : World) (a b c : Obj) : (((w.alloc a).alloc b).alloc c) = grow (w.drewN 0) #[a, b, c] := by
  rw [alloc_eq_grow, alloc_eq_grow, alloc_eq_grow, grow_grow, grow_grow]
  rfl
set_option maxHeartbeats 1000000 in
set_option maxRecDepth 100000 in
theorem ftnCmp_calls (W : World) (x y : FtN) : Calls Tryz.prog 57 #[.agg (ftnC x).toArray, .agg (ftnC y).toArray] W fun e w' => e = .returned (.int .i64 (ftnO x y)) ∧ ∃ q os, w' = grow (W.drewN q) os := by
  obtain ⟨⟨x1, x2⟩, hx⟩ := x
  obtain ⟨⟨y1, y2⟩, hy⟩ := y
  dsimp only at hx hy
  have h1 : IntKind.i64.wrap (x1 - y1) = x1 - y1 := IntWalk.i64_in _ (by omega)
  have h2 : IntKind.i64.wrap (x2 - y2) = x2 - y2 := IntWalk.i64_in _ (by omega)
  have HR := hid (fun W : World => (show Rd (W.alloc (.cells #[.int .i64 (x1 - y1), .int .i64 (x2 - y2)] 3)) (some ⟨W.heap.size, 0, none⟩) (ints [x1 - y1, x2 - y2]) from rdNew1 W [.int .i64 (x1 - y1), .int .i64 (x2 - y2)] 3))
  have KO := hid (fun (A : Option Addr) (W : World) hr => or2_calls (x1 - y1) (x2 - y2) A 2 W hr)
  show Calls Tryz.prog 57 #[.agg #[.int .i64 x1, .int .i64 x2], .agg #[.int .i64 y1, .int .i64 y2]] W _
  go_enter Tryz.func57, Tryz.ntmps57
  go_wp2_with fail
  have hrd := (unhid HR) ((W.alloc (.cells #[.int .i64 x1, .int .i64 x2] 110)).alloc (.cells #[.int .i64 y1, .int .i64 y2] 110))
  rw [show ((W.alloc (.cells #[.int .i64 x1, .int .i64 x2] 110)).alloc (.cells #[.int .i64 y1, .int .i64 y2] 110)).heap.size = W.heap.size + 1 + 1 from by simp] at hrd
  refine ((unhid KO) _ _ hrd).mono ?_
  rintro e w2 ⟨rfl, rfl⟩
  go_wp2_with fail
  go_ret
  exact ⟨by rfl, 0, _, growB3 _ _ _ _⟩

theorem ftC_one {l : List (Int × Int)} : ∀ u ∈ fts l, u.oneCell' = true := by
  intro u hu
  obtain ⟨e, -, hu⟩ := List.mem_flatMap.1 hu
  simp [ftC] at hu
  rcases hu with rfl | rfl <;> rfl
theorem sortFault_calls (fl : List (Int × Int)) (hb : ∀ f ∈ fl, (0 ≤ f.1 ∧ f.1 ≤ 1000000000) ∧ 0 ≤ f.2 ∧ f.2 ≤ 10) (v : Value) (base : Nat) (w : World) (hown : w.ownsRow base 110 2 v fl.length (fts fl)) (hn : fl.length ≤ 1000000) :
    Calls Tryz.prog 56 #[v, .func (.func 57) #[] #[]] w fun e w' =>
      e = .returned (.tuple #[]) ∧ ∃ L : List (Int × Int), L.Perm fl ∧ L.Pairwise (fun a b => a.1 ≤ b.1) ∧ w'.ownsRow base 110 2 v L.length (fts L) ∧ w.grownBy w' v.ownBlock := by
  obtain ⟨l, rfl⟩ : ∃ l : List FtN, fl = l.map (·.1) := ⟨fl.pmap (fun e h => ⟨e, h⟩) hb, by rw [List.map_pmap]; simp⟩
  have hfl : ∀ l : List FtN, fts (l.map (·.1)) = l.flatMap ftnC := fun l => by simp [fts, ftnC, List.flatMap_map]
  rw [hfl, List.length_map] at hown
  have hcon := sortK Tryz.sortFault 2 (by omega) Tryz.isAgg110 Tryz.sizeOf110 ftnC (fun _ => rfl) (fun x v hv => ftC_one (l := [x.1]) v (by simpa [fts, ftnC] using hv)) ftnO ftnSWO 57
    (fun args w => by simp [go_sem]) ftnCmp_calls l v base 110 w hown (by simp at hn; omega)
  change Calls Tryz.prog 56 _ _ _ at hcon
  refine hcon.mono ?_
  rintro e w' ⟨rfl, l', hp, hs, hown', hg⟩
  refine ⟨rfl, l'.map (·.1), hp.map _, ?_, ?_, hg⟩
  · rw [List.pairwise_map]
    refine hs.imp fun {a b} h => ?_
    rw [← Bool.not_eq_true, ftnO_iff] at h; omega
  · rw [hfl, List.length_map, hp.length_eq]; exact hown'

theorem fts_cells {w : World} {b off : Nat} {l : List (Int × Int)} (h : ∀ j u, (fts l)[j]? = some u → w.cell? ⟨b, off + j, none⟩ = some u) {k : Nat} (hk : k < l.length) :
    w.cell? ⟨b, off + k * 2, none⟩ = some (.int .i64 l[k].1) ∧ w.cell? ⟨b, off + k * 2 + 1, none⟩ = some (.int .i64 l[k].2) :=
  ⟨h _ _ (flat_at (f := ftC) (K := 2) (fun _ => rfl) l k 0 hk (by omega)), h _ _ (flat_at (f := ftC) (K := 2) (fun _ => rfl) l k 1 hk (by omega))⟩
theorem fts_ne {l : List (Int × Int)} {k : Nat} (h : k < l.length) : fts l ≠ [] := flat_ne (f := ftC) (K := 2) (fun _ => rfl) (by omega) h

set_option maxHeartbeats 1000000 in
theorem sameFaults_calls (A : Option Addr) (l : List (Int × Int)) (c : Nat) (A2 : Option Addr) (c2 : Nat) (w : World) (h : Rd w A (fts l)) (h2 : Rd w A2 (fts l)) (hn : l.length ≤ 100000000000) :
    Calls Tryz.prog 27 #[.slice A l.length c, .slice A2 l.length c2] w fun e w' => e = .returned (.bool true) ∧ Below w.heap.size w w' := by
  have H1 := hid h
  have H2 := hid h2
  clear h h2
  have hlen' : ((l.length : Int) != (l.length : Int)) = false := by simp
  go_enter Tryz.func27, Tryz.ntmps27
  go_wp2_with fail
  go_loopw [5] (fun i wr => ∃ k : Nat, k ≤ l.length ∧ i = .int .i64 k ∧ ∃ n, wr = w.drewN n) (fun i _ => l.length - (intOf i).toNat)
  case atStart => exact ⟨0, Nat.zero_le _, rfl, 0, rfl⟩
  case round =>
    obtain ⟨k, hk, rfl, n, rfl⟩ := hrel
    by_cases hlt : k < l.length
    · obtain ⟨b, off, rfl, hb, hc⟩ := (unhid H1) (fts_ne hlt)
      obtain ⟨b2, off2, rfl, hb2, hc2⟩ := (unhid H2) (fts_ne hlt)
      obtain ⟨m0, m1⟩ := fts_cells hc hlt
      obtain ⟨n0, n1⟩ := fts_cells hc2 hlt
      clear hc hc2
      generalize hx : l[k] = x at *
      clear hx
      have b0 : (x.1 == x.1) = true := by simp
      have b1 : (x.2 == x.2) = true := by simp
      go_wp2_with fail
      go_quiet (fail)
      go_wp2_with fail
      go_roundw
      case rel => exact ⟨k + 1, by omega, by go_num, _, rfl⟩
      case measure => simp [intOf]; omega
    · go_wp2_with fail
      go_ret
      exact ⟨rfl, below_drewN' (Below.refl _ _) _⟩
end

section
def numAt (R : List Mt) (i : Nat) : Int := ((R[i]?).map fun m => m.s.num).getD 0
/-- The faults of the first k signs of a row. -/
def fltRow (n : Int) (js : List Int) (R : List Mt) (dir : Int) (k : Nat) : List (Int × Int) := (List.range k).flatMap fun i => (codeH n js R dir i).map fun c => (numAt R i, c)
theorem fltRow_succ (n : Int) (js : List Int) (R : List Mt) (dir : Int) (k : Nat) : fltRow n js R dir (k + 1) = fltRow n js R dir k ++ (codeH n js R dir k).map fun c => (numAt R k, c) := by
  simp [fltRow, List.range_succ]
theorem codeL_len (c : Int) (b : Bool) : (codeL c b).length ≤ 1 := by cases b <;> simp [codeL]
theorem codeL_mem {c : Int} {b : Bool} {x : Int} (h : x ∈ codeL c b) : x = c := by cases b <;> simp [codeL] at h; exact h
theorem codeH_len (n : Int) (js : List Int) (R : List Mt) (dir : Int) (i : Nat) : (codeH n js R dir i).length ≤ 1 := by
  unfold codeH
  split
  · simp
  · repeat' split
    all_goals first | exact codeL_len _ _ | simp
theorem codeH_mem {n : Int} {js : List Int} {R : List Mt} {dir : Int} {i : Nat} {c : Int} (h : c ∈ codeH n js R dir i) : 1 ≤ c ∧ c ≤ 4 := by
  unfold codeH at h
  split at h
  · cases h
  · repeat' split at h
    all_goals first
      | (have := codeL_mem h; omega)
      | cases h
theorem fltRow_len (n : Int) (js : List Int) (R : List Mt) (dir : Int) (k : Nat) : (fltRow n js R dir k).length ≤ k := by
  induction k with
  | zero => simp [fltRow]
  | succ k ih => rw [fltRow_succ]; have := codeH_len n js R dir k; simp; omega
theorem fltRow_nums (n : Int) (js : List Int) (R : List Mt) (dir : Int) (k : Nat) (hk : k ≤ R.length) : ((fltRow n js R dir k).map (·.1)).Sublist ((R.take k).map fun m => m.s.num) := by
  induction k with
  | zero => simp [fltRow]
  | succ k ih =>
    rw [fltRow_succ, List.map_append, List.take_succ_eq_append_getElem (by omega), List.map_append]
    refine (ih (by omega)).append ?_
    have hn : numAt R k = (R[k]'(by omega)).s.num := by simp [numAt, List.getElem?_eq_getElem (show k < R.length by omega)]
    have hl := codeH_len n js R dir k
    rcases hc : codeH n js R dir k with _ | ⟨x, _ | ⟨y, t⟩⟩
    · simp
    · simp [hn]
    · rw [hc] at hl; simp at hl
theorem fltRow_mem {n : Int} {js : List Int} {R : List Mt} {dir : Int} {k : Nat} (hk : k ≤ R.length) {f : Int × Int} (h : f ∈ fltRow n js R dir k) : (∃ m ∈ R, f.1 = m.s.num) ∧ 1 ≤ f.2 ∧ f.2 ≤ 4 := by
  obtain ⟨i, hi, h⟩ := List.mem_flatMap.1 h
  rw [List.mem_range] at hi
  obtain ⟨c, hc, rfl⟩ := List.mem_map.1 h
  refine ⟨⟨R[i]'(by omega), List.getElem_mem _, by simp [numAt, List.getElem?_eq_getElem (show i < R.length by omega)]⟩, codeH_mem hc⟩

/-- The faults of a line, the list ahead of the sort. -/
noncomputable def fltAll (n : Nat) (js : List Int) (l : List Sg) (hour : Int) : List (Int × Int) :=
  fltRow n js (rowM n hour 1 l) 1 (rowM n hour 1 l).length ++ fltRow n js (rowM n hour (-1) l) (-1) (rowM n hour (-1) l).length

theorem row_nums_perm {len hour dir : Int} {l : List Sg} {R : List Mt} (h : IsRow len hour dir l R) : (R.map fun m => m.s.num).Perm ((selS hour dir l).map Sg.num) := by
  refine (h.perm.map _).trans ?_
  simp [selP, selS, List.map_map, Function.comp_def]
theorem flt_nodup {n : Nat} {js : List Int} {l : List Sg} {hour : Int} (h1 : IsRow n hour 1 l (rowM n hour 1 l)) (h2 : IsRow n hour (-1) l (rowM n hour (-1) l)) (hn : (l.map Sg.num).Nodup) : ((fltAll n js l hour).map (·.1)).Nodup := by
  have hs : ((fltAll n js l hour).map (·.1)).Sublist (((rowM n hour 1 l).map fun m => m.s.num) ++ ((rowM n hour (-1) l).map fun m => m.s.num)) := by
    rw [fltAll, List.map_append]
    refine List.Sublist.append ?_ ?_
    · have := fltRow_nums n js (rowM n hour 1 l) 1 _ (Nat.le_refl _); rwa [List.take_length] at this
    · have := fltRow_nums n js (rowM n hour (-1) l) (-1) _ (Nat.le_refl _); rwa [List.take_length] at this
  refine List.Nodup.sublist hs ?_
  rw [(List.Perm.append (row_nums_perm h1) (row_nums_perm h2)).nodup_iff, List.nodup_append]
  refine ⟨hn.sublist (List.filter_sublist.map _), hn.sublist (List.filter_sublist.map _), ?_⟩
  intro a ha b hb e
  obtain ⟨s, hs, rfl⟩ := List.mem_map.1 ha
  obtain ⟨s', hs', rfl⟩ := List.mem_map.1 hb
  simp [selS] at hs hs'
  have := map_inj_of hn hs.1 hs'.1 e
  subst this
  have h3 := hs.2.1
  have h4 := hs'.2.1
  omega
/-- Two sorted orders of one list of faults with different numbers are one. -/
theorem flt_unique {L L2 F : List (Int × Int)} (hp : L.Perm F) (hs : L.Pairwise (fun a b => a.1 ≤ b.1)) (hp2 : L2.Perm F) (hs2 : L2.Pairwise (fun a b => a.1 ≤ b.1)) (hnd : (F.map (·.1)).Nodup) : L = L2 := by
  have inj : ∀ {a b : Int × Int}, a ∈ F → b ∈ F → a.1 = b.1 → a = b := fun {a b} ha hb e => by
    have aux : ∀ (G : List (Int × Int)), (G.map (·.1)).Nodup → a ∈ G → b ∈ G → a = b := by
      intro G
      induction G with
      | nil => intro _ h; cases h
      | cons x G ih =>
        intro hn h1 h2
        rw [List.map_cons, List.nodup_cons] at hn
        rcases List.mem_cons.1 h1 with g1 | g1
        · rcases List.mem_cons.1 h2 with g2 | g2
          · rw [g1, g2]
          · exact absurd (by rw [← g1, e]; exact List.mem_map_of_mem g2) hn.1
        · rcases List.mem_cons.1 h2 with g2 | g2
          · exact absurd (by rw [← g2, ← e]; exact List.mem_map_of_mem g1) hn.1
          · exact ih hn.2 g1 g2
    exact aux F hnd ha hb
  refine List.Perm.eq_of_pairwise (le := fun a b => a.1 ≤ b.1) (fun a b ha hb h3 h4 => ?_) hs hs2 (hp.trans hp2.symm)
  exact inj (hp.subset ha) (hp2.subset hb) (by omega)
end

section
theorem fts_len (l : List (Int × Int)) : (fts l).length = l.length * 2 := flat_len (f := ftC) (K := 2) (fun _ => rfl) l
theorem fts_take (R : List (Int × Int)) (m : Nat) : fts (R.take m) = (fts R).take (m * 2) := by
  induction R generalizing m with
  | nil => simp [fts]
  | cons y R ih =>
    cases m with
    | zero => simp [fts]
    | succ m =>
      have h9 : (ftC y).length = 2 := rfl
      simp only [List.take_succ_cons, fts, List.flatMap_cons] at *
      rw [ih, show (m + 1) * 2 = (ftC y).length + m * 2 by rw [h9]; omega, List.take_length_add_append]
theorem fts_drop (R : List (Int × Int)) (m : Nat) : fts (R.drop m) = (fts R).drop (m * 2) := by
  induction R generalizing m with
  | nil => simp [fts]
  | cons y R ih =>
    cases m with
    | zero => simp [fts]
    | succ m =>
      have h9 : (ftC y).length = 2 := rfl
      simp only [List.drop_succ_cons, fts, List.flatMap_cons] at *
      rw [ih, show (m + 1) * 2 = (ftC y).length + m * 2 by rw [h9]; omega, List.drop_length_add_append]
theorem fts_ins (R : List (Int × Int)) (x : Int × Int) (m : Nat) : fts (R.take m ++ x :: R.drop m) = (fts R).take (m * 2) ++ (ftC x ++ (fts R).drop (m * 2)) := by
  rw [← fts_take, ← fts_drop]; simp [fts]
theorem fins_perm {R S : List (Int × Int)} (x : Int × Int) (m : Nat) (h : R.Perm S) : (R.take m ++ x :: R.drop m).Perm (S ++ [x]) := by
  refine List.perm_middle.trans ?_
  rw [List.take_append_drop]
  exact (List.Perm.cons x h).trans (List.perm_append_singleton x S).symm
theorem fins_sorted {R : List (Int × Int)} {x : Int × Int} {m : Nat} (hm : m ≤ R.length) (hs : R.Pairwise (fun a b => a.1 ≤ b.1))
    (h1 : ∀ j (h : j < R.length), m ≤ j → x.1 < (R[j]).1) (h2 : ∀ h : 0 < m, (R[m - 1]'(by omega)).1 ≤ x.1) : (R.take m ++ x :: R.drop m).Pairwise (fun a b => a.1 ≤ b.1) := by
  rw [List.pairwise_append]
  refine ⟨hs.sublist (List.take_sublist _ _), ?_, fun a ha b hb => ?_⟩
  · rw [List.pairwise_cons]
    refine ⟨fun b hb => ?_, hs.sublist (List.drop_sublist _ _)⟩
    obtain ⟨j, hj, rfl⟩ := List.mem_iff_getElem.1 hb
    rw [List.length_drop] at hj
    rw [List.getElem_drop]
    have := h1 (m + j) (by omega) (by omega)
    omega
  · obtain ⟨i, hi, rfl⟩ := List.mem_iff_getElem.1 ha
    rw [List.length_take] at hi
    rw [List.getElem_take]
    rw [List.pairwise_iff_getElem] at hs
    have hpos : 0 < m := by omega
    have hx : (R[i]).1 ≤ x.1 := by
      by_cases e : i = m - 1
      · subst e; exact h2 hpos
      · have := hs i (m - 1) (by omega) (by omega) (by omega); have := h2 hpos; omega
    rcases List.mem_cons.1 hb with rfl | hb
    · exact hx
    · obtain ⟨j, hj, rfl⟩ := List.mem_iff_getElem.1 hb
      rw [List.length_drop] at hj
      rw [List.getElem_drop]
      exact hs _ _ (by omega) (by omega) (by omega)
/-- What the reference's Faults has behind j of its two directions. -/
noncomputable def fltD (n : Nat) (js : List Int) (l : List Sg) (hour : Int) : Nat → List (Int × Int)
  | 0 => []
  | 1 => fltRow n js (rowM n hour 1 l) 1 (rowM n hour 1 l).length
  | _ => fltAll n js l hour
theorem fltD_succ (n : Nat) (js : List Int) (l : List Sg) (hour : Int) {j : Nat} (hj : j < 2) :
    fltD n js l hour (j + 1) = fltD n js l hour j ++ fltRow n js (rowM n hour (1 - 2 * (j : Int)) l) (1 - 2 * (j : Int)) (rowM n hour (1 - 2 * (j : Int)) l).length := by
  rcases (show j = 0 ∨ j = 1 by omega) with rfl | rfl
  · rfl
  · rfl
theorem rowM_len (n : Nat) (hour dir : Int) (l : List Sg) : (rowM n hour dir l).length ≤ l.length := by
  unfold rowM
  split
  · rename_i h
    have e := h.choose_spec.perm.length_eq
    have d := selP_len n hour dir l
    omega
  · simp
theorem fltD_len (n : Nat) (js : List Int) (l : List Sg) (hour : Int) (j : Nat) : (fltD n js l hour j).length ≤ 2 * l.length := by
  have a := fltRow_len n js (rowM n hour 1 l) 1 (rowM n hour 1 l).length
  have b := fltRow_len n js (rowM n hour (-1) l) (-1) (rowM n hour (-1) l).length
  have c := rowM_len n hour 1 l
  have d := rowM_len n hour (-1) l
  match j with
  | 0 => simp [fltD]
  | 1 => simp only [fltD]; omega
  | (k + 2) => simp only [fltD, fltAll, List.length_append]; omega
theorem row_dir {n hour dir : Int} {l : List Sg} {R : List Mt} (h : IsRow n hour dir l R) : ∀ m ∈ R, m.s.dir = dir := fun m hm => by
  have h1 := h.perm.subset hm
  simp [selP] at h1
  obtain ⟨s, ⟨_, h2, _⟩, rfl⟩ := h1
  exact h2
end

end Go.Proofs.YtmpngoejnmlmbaaGreat
