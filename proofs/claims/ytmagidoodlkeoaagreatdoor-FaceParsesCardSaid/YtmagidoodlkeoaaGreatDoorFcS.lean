/-
  The reference's reading of a face's text, in plain Lean: of a valid face's text it is the face. No program in sight.
-/
import Derived.Test.YtmagidoodlkeoaaGreatDoorFcR
set_option linter.unusedSimpArgs false
set_option linter.unusedVariables false
namespace Go.Proofs.YtmagidoodlkeoaaGreatDoor
open Go.Lib

structure Rdr where
  s : List UInt8
  bad : Bool
def isLow (c : UInt8) : Bool := decide (97 ≤ c.toNat ∧ c.toNat ≤ 122)
def isDig (c : UInt8) : Bool := decide (48 ≤ c.toNat ∧ c.toNat ≤ 57)
def skipR (t : List UInt8) (r : Rdr) : Rdr := if t.isPrefixOf r.s then ⟨r.s.drop t.length, r.bad⟩ else ⟨r.s, true⟩
def wordR (r : Rdr) : List UInt8 × Rdr := (r.s.takeWhile isLow, ⟨r.s.drop (r.s.takeWhile isLow).length, r.bad⟩)
def digsR (s : List UInt8) : List UInt8 := (s.take 6).takeWhile isDig
def valR (l : List UInt8) : Int := l.foldl (fun n c => 10 * n + ((c.toNat : Int) - 48)) 0
def numR (r : Rdr) : Int × Rdr := (valR (digsR (skipR [32] r).s), ⟨(skipR [32] r).s.drop (digsR (skipR [32] r).s).length, (skipR [32] r).bad || (digsR (skipR [32] r).s).isEmpty⟩)
def notQ (c : UInt8) : Bool := decide (c ≠ 34)
def textR (r : Rdr) : List UInt8 × Rdr := ((skipR [32, 34] r).s.takeWhile notQ, skipR [34] ⟨(skipR [32, 34] r).s.drop ((skipR [32, 34] r).s.takeWhile notQ).length, (skipR [32, 34] r).bad⟩)
def placeR (r : Rdr) : Int × Int × Rdr :=
  let p := numR (skipR [32, 97, 116] r)
  let q := numR p.2
  (p.1, q.1, q.2)
/-- The last of the words 1 to k that is x, or 0. -/
def hitW (ws : List (List UInt8)) (x : List UInt8) : Nat → Int
  | 0 => 0
  | k + 1 => if ws.getD (k + 1) [] = x then ((k + 1 : Nat) : Int) else hitW ws x k
def itemK (kind : List UInt8) (c : Int) (r : Rdr) : It × Rdr :=
  if kind = [102, 105, 101, 108, 100] then (⟨1, c, 0, 0, 0, 0, []⟩, r)
  else if kind = [114, 105, 109] then (⟨2, c, 0, 0, (numR r).1, 0, []⟩, (numR r).2)
  else if kind = [98, 111, 120] then
    let b := numR (numR r).2
    let p := placeR b.2
    (⟨3, c, p.1, p.2.1, (numR r).1, b.1, []⟩, p.2.2)
  else if kind = [100, 105, 115, 99] then
    let p := placeR (numR r).2
    (⟨4, c, p.1, p.2.1, (numR r).1, 0, []⟩, p.2.2)
  else if kind = [115, 108, 97, 115, 104] then (⟨5, c, 0, 0, (numR r).1, 0, []⟩, (numR r).2)
  else if kind = [116, 101, 120, 116] then
    let t := textR (numR r).2
    let p := placeR t.2
    (⟨6, c, p.1, p.2.1, (numR r).1, 0, t.1⟩, p.2.2)
  else (⟨0, c, 0, 0, 0, 0, []⟩, r)
def itemR (r : Rdr) : It × Rdr :=
  let k := wordR r
  let n := wordR (skipR [32] k.2)
  itemK k.1 (hitW colourW n.1 8) n.2
def sepR (i : Nat) : List UInt8 := if i = 0 then [58, 32] else [59, 32]
/-- The items that are read from the i-th on, m at most. -/
def itemsR : Nat → Nat → Rdr → List It × Rdr
  | 0, _, r => ([], r)
  | m + 1, i, r => if r.bad = false ∧ r.s ≠ [] then
      let p := itemR (skipR (sepR i) r)
      let q := itemsR m (i + 1) p.2
      (p.1 :: q.1, q.2)
    else ([], r)
def readRf (s : List UInt8) : Fc × Rdr :=
  let n := wordR ⟨s, false⟩
  let h := hitW shapeW n.1 6
  let z := numR n.2
  let g := if h = 2 then numR z.2 else (0, z.2)
  let l := itemsR 16 0 g.2
  (⟨h, z.1, g.1, l.1⟩, l.2)
def parseR (s : List UInt8) : Option Fc :=
  if (readRf s).2.bad = false ∧ (readRf s).2.s = [] ∧ fcB (readRf s).1 = true ∧ fmtF (readRf s).1 = s then some (readRf s).1 else none

/-! ### The laws -/
theorem skip_at (t r : List UInt8) (b : Bool) : skipR t ⟨t ++ r, b⟩ = ⟨r, b⟩ := by simp [skipR]
def endL (r : List UInt8) : Prop := ∀ c, r.head? = some c → isLow c = false
def endD (r : List UInt8) : Prop := ∀ c, r.head? = some c → isDig c = false
theorem takeWhile_at {f : UInt8 → Bool} {w r : List UInt8} (hw : w.all f = true) (hr : ∀ c, r.head? = some c → f c = false) : (w ++ r).takeWhile f = w := by
  induction w with
  | nil =>
    cases r with
    | nil => rfl
    | cons c r => simp [List.takeWhile, hr c rfl]
  | cons c w ih =>
    simp only [List.all_cons, Bool.and_eq_true] at hw
    simp [List.takeWhile, hw.1, ih hw.2]
theorem word_at {w r : List UInt8} {b : Bool} (hw : w.all isLow = true) (hr : endL r) : wordR ⟨w ++ r, b⟩ = (w, ⟨r, b⟩) := by
  simp only [wordR, takeWhile_at hw hr, List.drop_left]
set_option maxRecDepth 100000 in
theorem dg_dig : ∀ u : Fin 201, (dg u.val).all isDig = true ∧ valR (dg u.val) = (u.val : Int) ∧ (dg u.val).length ≤ 3 ∧ (dg u.val).isEmpty = false := by decide
theorem num_at {n : Int} {r : List UInt8} {b : Bool} (h0 : 0 ≤ n) (h1 : n ≤ 200) (hr : endD r) : numR ⟨[32] ++ (itoa n ++ r), b⟩ = (n, ⟨r, b⟩) := by
  obtain ⟨d1, d2, d3, d4⟩ := dg_dig ⟨n.toNat, by omega⟩
  rw [← itoa_dg h0 h1] at d1 d2 d3 d4
  have e : digsR (itoa n ++ r) = itoa n := by
    unfold digsR
    rw [List.take_append, List.take_of_length_le (by omega)]
    refine takeWhile_at d1 ?_
    intro c hc
    refine hr c ?_
    cases r with
    | nil => simp at hc
    | cons x r =>
      obtain ⟨m, hm⟩ : ∃ m, 6 - (itoa n).length = m + 1 := ⟨5 - (itoa n).length, by omega⟩
      rw [hm] at hc
      simpa using hc
  simp only [numR, skip_at, e, d2, d4, List.drop_left, Bool.or_false]
  simp
  omega
theorem text_at {t r : List UInt8} {b : Bool} (ht : 34 ∉ t) : textR ⟨[32, 34] ++ (t ++ ([34] ++ r)), b⟩ = (t, ⟨r, b⟩) := by
  have e : (t ++ ([34] ++ r)).takeWhile notQ = t := takeWhile_at (by rw [List.all_eq_true]; intro c hc; simp only [notQ, decide_eq_true_eq]; rintro rfl; exact ht hc) (by simp [notQ])
  simp only [textR, skip_at, e, List.drop_left]
theorem place_at {x y : Int} {r : List UInt8} {b : Bool} (x0 : 0 ≤ x) (x1 : x ≤ 200) (y0 : 0 ≤ y) (y1 : y ≤ 200) (hr : endD r) : placeR ⟨[32, 97, 116] ++ ([32] ++ (itoa x ++ ([32] ++ (itoa y ++ r)))), b⟩ = (x, y, ⟨r, b⟩) := by
  unfold placeR
  rw [skip_at, num_at x0 x1 (by simp [endD, isDig])]
  dsimp only
  rw [num_at y0 y1 hr]
set_option maxRecDepth 100000 in
theorem colour_low : ∀ c : Fin 9, (colourW.getD c.val []).all isLow = true ∧ hitW colourW (colourW.getD c.val []) 8 = (c.val : Int) := by decide
set_option maxRecDepth 100000 in
theorem shape_low : ∀ c : Fin 7, (shapeW.getD c.val []).all isLow = true ∧ hitW shapeW (shapeW.getD c.val []) 6 = (c.val : Int) := by decide
theorem colour_low' {c : Int} (h0 : 1 ≤ c) (h1 : c ≤ 8) : ∃ w, colourW[c.toNat]?.getD [] = w ∧ w.all isLow = true ∧ hitW colourW w 8 = c := by
  obtain ⟨a, b⟩ := colour_low ⟨c.toNat, by omega⟩
  simp only [List.getD_eq_getElem?_getD] at a b
  exact ⟨_, rfl, a, by rw [b]; simp; omega⟩
theorem item_at {kw cw r : List UInt8} {c : Int} (hk : kw.all isLow = true) (hc : cw.all isLow = true) (hh : hitW colourW cw 8 = c) (hr : endL r) : itemR ⟨kw ++ ([32] ++ (cw ++ r)), false⟩ = itemK kw c ⟨r, false⟩ := by
  unfold itemR
  rw [word_at hk (by simp [endL, isLow])]
  dsimp only
  rw [skip_at, word_at hc hr]
  dsimp only
  rw [hh]

set_option maxRecDepth 100000 in
theorem itemR_fmt {x : It} {r : List UInt8} (h : itB x = true) (hr : r = [] ∨ r.head? = some 59) : itemR ⟨fmtIt x ++ r, false⟩ = (x, ⟨r, false⟩) := by
  have hrL : endL r := by rcases hr with rfl | hr <;> intro c hc; simp at hc; rw [hr] at hc; injection hc with hc; subst hc; decide
  have hrD : endD r := by rcases hr with rfl | hr <;> intro c hc; simp at hc; rw [hr] at hc; injection hc with hc; subst hc; decide
  have spD : ∀ l, endD ([32] ++ l) := fun l c hc => by simp at hc; subst hc; decide
  have spL : ∀ l, endL ([32] ++ l) := fun l c hc => by simp at hc; subst hc; decide
  obtain ⟨k, c, l, w, a, b, t⟩ := x
  simp only [itB, Bool.and_eq_true, decide_eq_true_eq] at h
  obtain ⟨⟨⟨⟨⟨⟨hk, hc⟩, hl⟩, hw⟩, ha⟩, hb⟩, ht⟩ := h
  obtain ⟨cw, ec, c1, c2⟩ := colour_low' hc.1 hc.2
  have hk' : k = 1 ∨ k = 2 ∨ k = 3 ∨ k = 4 ∨ k = 5 ∨ k = 6 := by omega
  rcases hk' with rfl | rfl | rfl | rfl | rfl | rfl
  all_goals simp [useB] at hl hw ha hb ht
  · subst hl hw ha hb ht
    have e : fmtIt ⟨1, c, 0, 0, 0, 0, []⟩ ++ r = [102, 105, 101, 108, 100] ++ ([32] ++ (cw ++ r)) := by simp [fmtIt, wordsW, headW, ec, kindW, join_cons, joinTail]
    rw [e, item_at (by decide) c1 c2 hrL]
    rfl
  · subst hl hw hb ht
    have e : fmtIt ⟨2, c, 0, 0, a, 0, []⟩ ++ r = [114, 105, 109] ++ ([32] ++ (cw ++ ([32] ++ (itoa a ++ r)))) := by simp [fmtIt, wordsW, headW, ec, kindW, join_cons, joinTail]
    rw [e, item_at (by decide) c1 c2 (spL _), itemK, if_neg (by decide), if_pos rfl, num_at (by omega) ha.2 hrD]
  · subst ht
    have e : fmtIt ⟨3, c, l, w, a, b, []⟩ ++ r = [98, 111, 120] ++ ([32] ++ (cw ++ ([32] ++ (itoa a ++ ([32] ++ (itoa b ++ ([32, 97, 116] ++ ([32] ++ (itoa l ++ ([32] ++ (itoa w ++ r))))))))))) := by simp [fmtIt, wordsW, headW, atW, ec, kindW, join_cons, joinTail]
    rw [e, item_at (by decide) c1 c2 (spL _), itemK, if_neg (by decide), if_neg (by decide), if_pos rfl, num_at (by omega) ha.2 (spD _)]
    dsimp only
    rw [num_at (by omega) hb.2 (fun c hc => by simp at hc; subst hc; decide)]
    dsimp only
    rw [place_at hl.1 hl.2 hw.1 hw.2 hrD]
  · subst hb ht
    have e : fmtIt ⟨4, c, l, w, a, 0, []⟩ ++ r = [100, 105, 115, 99] ++ ([32] ++ (cw ++ ([32] ++ (itoa a ++ ([32, 97, 116] ++ ([32] ++ (itoa l ++ ([32] ++ (itoa w ++ r))))))))) := by simp [fmtIt, wordsW, headW, atW, ec, kindW, join_cons, joinTail]
    rw [e, item_at (by decide) c1 c2 (spL _), itemK, if_neg (by decide), if_neg (by decide), if_neg (by decide), if_pos rfl, num_at (by omega) ha.2 (fun c hc => by simp at hc; subst hc; decide)]
    dsimp only
    rw [place_at hl.1 hl.2 hw.1 hw.2 hrD]
  · subst hl hw hb ht
    have e : fmtIt ⟨5, c, 0, 0, a, 0, []⟩ ++ r = [115, 108, 97, 115, 104] ++ ([32] ++ (cw ++ ([32] ++ (itoa a ++ r)))) := by simp [fmtIt, wordsW, headW, ec, kindW, join_cons, joinTail]
    rw [e, item_at (by decide) c1 c2 (spL _), itemK, if_neg (by decide), if_neg (by decide), if_neg (by decide), if_neg (by decide), if_pos rfl, num_at (by omega) ha.2 hrD]
  · subst hb
    simp only [spellB, Bool.and_eq_true] at ht
    obtain ⟨t1, t2, t3⟩ := isL_free ht.2
    have e : fmtIt ⟨6, c, l, w, a, 0, t⟩ ++ r = [116, 101, 120, 116] ++ ([32] ++ (cw ++ ([32] ++ (itoa a ++ ([32, 34] ++ (t ++ ([34] ++ ([32, 97, 116] ++ ([32] ++ (itoa l ++ ([32] ++ (itoa w ++ r)))))))))))) := by simp [fmtIt, headW, atW, ec, kindW, join_cons, joinTail]
    rw [e, item_at (by decide) c1 c2 (spL _), itemK, if_neg (by decide), if_neg (by decide), if_neg (by decide), if_neg (by decide), if_neg (by decide), if_pos rfl, num_at (by omega) ha.2 (fun c hc => by simp at hc; subst hc; decide)]
    dsimp only
    rw [text_at t1]
    dsimp only
    rw [place_at hl.1 hl.2 hw.1 hw.2 hrD]
/-- The text of the items from the i-th on. -/
def tailF (i : Nat) : List It → List UInt8
  | [] => []
  | x :: l => sepR i ++ (fmtIt x ++ tailF (i + 1) l)
theorem tailF_head (i : Nat) (l : List It) : tailF (i + 1) l = [] ∨ (tailF (i + 1) l).head? = some 59 := by
  cases l with
  | nil => exact .inl rfl
  | cons x l => right; simp [tailF, sepR]
theorem itemsR_fmt : ∀ (l : List It) (m i : Nat), l.all itB = true → l.length ≤ m → itemsR m i ⟨tailF i l, false⟩ = (l, ⟨[], false⟩)
  | [], m, i, _, _ => by cases m <;> simp [itemsR, tailF]
  | x :: l, 0, i, _, h => by simp at h
  | x :: l, m + 1, i, h, hm => by
    simp only [List.all_cons, Bool.and_eq_true] at h
    simp only [List.length_cons] at hm
    have hne : sepR i ++ (fmtIt x ++ tailF (i + 1) l) ≠ [] := by unfold sepR; split <;> simp
    unfold itemsR tailF
    rw [if_pos ⟨rfl, hne⟩, skip_at, itemR_fmt h.1 (tailF_head i l)]
    dsimp only
    rw [itemsR_fmt l m (i + 1) h.2 (by omega)]
theorem tail_join (x : It) (l : List It) (i : Nat) : fmtIt x ++ tailF (i + 1) l = join ((x :: l).map fmtIt) [59, 32] := by
  rw [List.map_cons, join_cons]
  congr 1
  induction l generalizing i with
  | nil => rfl
  | cons y l ih =>
    simp only [tailF, joinTail, List.map_cons, List.flatten_cons] at ih ⊢
    rw [ih (i + 1)]
    simp [sepR]
theorem fmtF_tail (f : Fc) : fmtF f = join (headF f) [32] ++ tailF 0 f.items := by
  unfold fmtF
  cases e : f.items with
  | nil => simp [tailF]
  | cons x l =>
    rw [if_neg (by simp), tailF, tail_join]
    rfl
theorem readRf_fmt {f : Fc} (h : fcB f = true) : readRf (fmtF f) = (f, ⟨[], false⟩) := by
  rw [fmtF_tail]
  obtain ⟨s, z, g, l⟩ := f
  simp only [fcB, Bool.and_eq_true, decide_eq_true_eq] at h
  obtain ⟨⟨⟨⟨hs, hz⟩, hn⟩, hg⟩, hl⟩ := h
  obtain ⟨s1, s2⟩ := shape_low ⟨s.toNat, by omega⟩
  simp only [List.getD_eq_getElem?_getD] at s1 s2
  have s2' : hitW shapeW (shapeW[s.toNat]?.getD []) 6 = s := by rw [s2]; simp; omega
  have hD : endD (tailF 0 l) := by
    cases l with
    | nil => intro c hc; simp [tailF] at hc
    | cons x l => intro c hc; simp [tailF, sepR] at hc; subst hc; decide
  have hi := itemsR_fmt l 16 0 hl hn
  by_cases e2 : s = 2
  · rw [if_pos e2] at hg
    simp only [decide_eq_true_eq] at hg
    have e : join (headF ⟨s, z, g, l⟩) [32] ++ tailF 0 l = shapeW[s.toNat]?.getD [] ++ ([32] ++ (itoa z ++ ([32] ++ (itoa g ++ tailF 0 l)))) := by simp [headF, e2, join_cons, joinTail]
    unfold readRf
    dsimp only at hi ⊢
    rw [e, word_at s1 (by simp [endL, isLow])]
    dsimp only
    rw [s2', num_at (by omega) hz.2 (by simp [endD, isDig]), if_pos e2]
    dsimp only
    rw [num_at (by omega) hg.2 hD]
    dsimp only
    rw [hi]
  · rw [if_neg e2] at hg
    simp only [decide_eq_true_eq] at hg
    have e : join (headF ⟨s, z, g, l⟩) [32] ++ tailF 0 l = shapeW[s.toNat]?.getD [] ++ ([32] ++ (itoa z ++ tailF 0 l)) := by simp [headF, e2, join_cons, joinTail]
    unfold readRf
    dsimp only at hi ⊢
    rw [e, word_at s1 (by simp [endL, isLow])]
    dsimp only
    rw [s2', num_at (by omega) hz.2 hD, if_neg e2]
    dsimp only
    rw [hi, hg]
theorem parseR_eq (s : List UInt8) : parseR s = parseP s := by
  unfold parseR
  split
  · rename_i h
    exact (parseP_some.2 ⟨h.2.2.1, h.2.2.2⟩).symm
  · rename_i h
    cases e : parseP s with
    | none => rfl
    | some f =>
      obtain ⟨h1, h2⟩ := parseP_some.1 e
      subst h2
      rw [readRf_fmt h1] at h
      simp [h1] at h

end Go.Proofs.YtmagidoodlkeoaaGreatDoor
