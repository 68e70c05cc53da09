/-
  Texts of faces in plain Lean: cutting, splitting and joining. No program in sight. Faces in plain Lean: which are valid, their text, and the program's rough reading of a text. No program in sight. What is painted on a face: the dots of a shape, those within a rim, those that an item paints, the last item that does, the colour. No program in sight. The runs of a row of colours and how many dots they hold; runs in a mirror; the areas of a face's colours, row by row, dot by dot, run by run. No program in sight. The program's rough reading of a valid face's text is the face. No program in sight. Types and money: what is valid, and what it costs. No program in sight. Lengths of texts, panels, seams. No program in sight. The reference's table of letters, in hexadecimal digits, holds the program's rows. No program in sight. The reference's reading of a face's text, in plain Lean: of a valid face's text it is the face. No program in sight. Faces without the items that are not seen. No program in sight. Seams, as the walks need them: letter by letter, item by item, seam by seam. No program in sight.
-/
import Derived.Lib.Split
import Derived.Lib.Join
import Derived.Lib.ItoaNum
import Derived.Lib.AtoiAllCases
set_option linter.unusedSimpArgs false
set_option linter.unusedVariables false
namespace Go.Proofs.YtfklckjfbnaoeaaGreatDoor

section
open Go.Lib

theorem index_at {p r sub : List UInt8} (h : ∀ j, j < p.length → occAt (p ++ (sub ++ r)) sub j = false) : index (p ++ (sub ++ r)) sub = p.length :=
  index_first (by simp) (by simp [occAt]) h
/-- The byte d stands in the separator at place i, and not in the text ahead of it. -/
theorem index_free {p r sub : List UInt8} {d : UInt8} (i : Nat) (hd : sub[i]? = some d) (hp : d ∉ p ++ sub.take i) : index (p ++ (sub ++ r)) sub = p.length := by
  have hi : i < sub.length := (List.getElem?_eq_some_iff.1 hd).1
  refine index_at fun j hj => ?_
  cases ho : occAt (p ++ (sub ++ r)) sub j with
  | false => rfl
  | true =>
    exfalso
    have hr : j + sub.length ≤ (p ++ (sub ++ r)).length := by
      rcases occAt_room ho with h | h
      · exact h
      · simp [h] at hi
    rw [occAt_iff_take _ _ _ hr, beq_iff_eq] at ho
    have e : (p ++ (sub ++ r))[j + i]? = some d := by
      have e0 := congrArg (fun l => l[i]?) ho
      simp only [List.getElem?_take_of_lt hi, List.getElem?_drop] at e0
      rw [e0, hd]
    refine hp ?_
    have e2 : (p ++ (sub ++ r))[j + i]? = (p ++ sub.take i)[j + i]? := by
      by_cases h : j + i < p.length
      · rw [List.getElem?_append_left h, List.getElem?_append_left h]
      · have h1 : p.length ≤ j + i := by omega
        have h2 : j + i - p.length < sub.length := by omega
        have h3 : j + i - p.length < i := by omega
        rw [List.getElem?_append_right h1, List.getElem?_append_right h1, List.getElem?_append_left h2, List.getElem?_take_of_lt h3]
    rw [e2] at e
    exact List.mem_of_getElem? e
theorem index_no {s sub : List UInt8} {d : UInt8} (hd : d ∈ sub) (hs : d ∉ s) : index s sub = -1 := by
  refine index_none fun j _ => ?_
  cases ho : occAt s sub j with
  | false => rfl
  | true =>
    exfalso
    refine hs (List.mem_of_mem_drop (i := j) ?_)
    have : sub <+: s.drop j := List.isPrefixOf_iff_prefix.1 ho
    exact this.subset hd
theorem cut_free {p r sub : List UInt8} {d : UInt8} (i : Nat) (hd : sub[i]? = some d) (hp : d ∉ p ++ sub.take i) : cut (p ++ (sub ++ r)) sub = (p, r, true) := by
  unfold cut
  rw [index_free i hd hp, if_pos (by omega)]
  have e : ((p.length : Int)).toNat = p.length := by omega
  rw [e]
  simp
theorem cut_no {s sub : List UInt8} {d : UInt8} (hd : d ∈ sub) (hs : d ∉ s) : cut s sub = (s, [], false) := by
  unfold cut
  rw [index_no hd hs, if_neg (by omega)]
theorem split_join {c : UInt8} {t : List UInt8} (x : List UInt8) (ws : List (List UInt8)) (h : ∀ w ∈ x :: ws, c ∉ w) : split (join (x :: ws) (c :: t)) (c :: t) = x :: ws := by
  unfold split
  induction ws generalizing x with
  | nil =>
    rw [join_one]
    have hi := index_no (s := x) (sub := c :: t) (d := c) (by simp) (h x (by simp))
    rw [count_miss hi]
    rfl
  | cons y ws ih =>
    have e : join (x :: y :: ws) (c :: t) = x ++ ((c :: t) ++ join (y :: ws) (c :: t)) := by
      rw [join_cons, join_cons]
      simp [joinTail]
    have hi : index (join (x :: y :: ws) (c :: t)) (c :: t) = x.length := by
      rw [e]
      exact index_free 0 rfl (by simpa using h x (by simp))
    have e1 : (join (x :: y :: ws) (c :: t)).drop (x.length + (c :: t).length) = join (y :: ws) (c :: t) := by
      rw [e, ← List.append_assoc, ← List.length_append]
      exact List.drop_left
    rw [count_hit (by simp) hi, e1, Nat.add_comm, splitK, if_neg (by rw [hi]; simp), hi]
    have e2 : ((x.length : Int)).toNat = x.length := by omega
    rw [e2, e1, ih y (fun w hw => h w (by simp at hw ⊢; exact .inr hw))]
    congr 1
    rw [e, Nat.add_zero, List.take_left]
end

section
open Go.Lib

/-- A text of these bytes. -/
def SB (l : List UInt8) : ByteArray := ⟨l.toArray⟩
theorem SB_data (l : List UInt8) : (SB l).data.toList = l := rfl
theorem SB_of (s : ByteArray) : SB s.data.toList = s := rfl

structure It where
  kind : Int
  colour : Int
  left : Int
  low : Int
  a : Int
  b : Int
  text : List UInt8
structure Fc where
  shape : Int
  size : Int
  height : Int
  items : List It

def shapeW : List (List UInt8) := [[], [114, 111, 117, 110, 100], [112, 97, 110, 101, 108], [100, 105, 97, 109, 111, 110, 100], [111, 99, 116, 97, 103, 111, 110], [117, 112], [100, 111, 119, 110]]
def colourW : List (List UInt8) := [[], [119, 104, 105, 116, 101], [121, 101, 108, 108, 111, 119], [111, 114, 97, 110, 103, 101], [114, 101, 100], [103, 114, 101, 101, 110], [98, 108, 117, 101], [98, 114, 111, 119, 110], [98, 108, 97, 99, 107]]
def kindW : List (List UInt8) := [[], [102, 105, 101, 108, 100], [114, 105, 109], [98, 111, 120], [100, 105, 115, 99], [115, 108, 97, 115, 104], [116, 101, 120, 116]]
/-- The rows of the letters 0 to 9 and A to Z. -/
def tabL : List (List Int) := [[14, 17, 19, 21, 25, 17, 14], [4, 12, 4, 4, 4, 4, 14], [14, 17, 1, 2, 4, 8, 31], [31, 2, 4, 2, 1, 17, 14], [2, 6, 10, 18, 31, 2, 2], [31, 16, 30, 1, 1, 17, 14], [6, 8, 16, 30, 17, 17, 14], [31, 1, 2, 4, 8, 8, 8], [14, 17, 17, 14, 17, 17, 14], [14, 17, 17, 15, 1, 2, 12], [14, 17, 17, 17, 31, 17, 17], [30, 17, 17, 30, 17, 17, 30], [14, 17, 16, 16, 16, 17, 14], [28, 18, 17, 17, 17, 18, 28], [31, 16, 16, 30, 16, 16, 31], [31, 16, 16, 30, 16, 16, 16], [14, 17, 16, 23, 17, 17, 15], [17, 17, 17, 31, 17, 17, 17], [14, 4, 4, 4, 4, 4, 14], [7, 2, 2, 2, 2, 18, 12], [17, 18, 20, 24, 20, 18, 17], [16, 16, 16, 16, 16, 16, 31], [17, 27, 21, 21, 17, 17, 17], [17, 17, 25, 21, 19, 17, 17], [14, 17, 17, 17, 17, 17, 14], [30, 17, 17, 30, 16, 16, 16], [14, 17, 17, 17, 21, 18, 13], [30, 17, 17, 30, 20, 18, 17], [15, 16, 16, 14, 1, 1, 30], [31, 4, 4, 4, 4, 4, 4], [17, 17, 17, 17, 17, 17, 14], [17, 17, 17, 17, 17, 10, 4], [17, 17, 17, 21, 21, 21, 10], [17, 17, 10, 4, 10, 17, 17], [17, 17, 17, 10, 4, 4, 4], [31, 1, 2, 4, 8, 16, 31]]
def isL (c : Int) : Bool := decide (c = 32 ∨ 48 ≤ c ∧ c ≤ 57 ∨ 65 ≤ c ∧ c ≤ 90)
/-- The rows of a letter: those of the space where there is none. -/
def rowsL (c : Int) : List Int := if 48 ≤ c ∧ c ≤ 57 then tabL.getD (c - 48).toNat [0, 0, 0, 0, 0, 0, 0] else if 65 ≤ c ∧ c ≤ 90 then tabL.getD (c - 55).toNat [0, 0, 0, 0, 0, 0, 0] else [0, 0, 0, 0, 0, 0, 0]
def spellB (l : List UInt8) : Bool := decide (1 ≤ l.length ∧ l.length ≤ 24) && l.all fun c => isL c.toNat
def useB (u : Bool) (lo n : Int) : Bool := if u then decide (lo ≤ n ∧ n ≤ 200) else decide (n = 0)
def itB (x : It) : Bool :=
  decide (1 ≤ x.kind ∧ x.kind ≤ 6) && decide (1 ≤ x.colour ∧ x.colour ≤ 8) && useB (decide (x.kind = 3 ∨ x.kind = 4 ∨ x.kind = 6)) 0 x.left && useB (decide (x.kind = 3 ∨ x.kind = 4 ∨ x.kind = 6)) 0 x.low &&
    useB (decide (x.kind ≠ 1)) 1 x.a && useB (decide (x.kind = 3)) 1 x.b && (if x.kind = 6 then spellB x.text else x.text.isEmpty)
def fcB (f : Fc) : Bool :=
  decide (1 ≤ f.shape ∧ f.shape ≤ 6) && decide (4 ≤ f.size ∧ f.size ≤ 200) && decide (f.items.length ≤ 16) && (if f.shape = 2 then decide (4 ≤ f.height ∧ f.height ≤ 200) else decide (f.height = 0)) && f.items.all itB
def heiF (f : Fc) : Int := if f.shape = 2 then f.height else if f.shape = 5 ∨ f.shape = 6 then (13 * f.size + 14) / 15 else f.size

/-! ### The text of a face -/
def atW (x : It) : List (List UInt8) := [[97, 116], itoa x.left, itoa x.low]
/-- The words of an item ahead of its place. -/
def headW (x : It) : List (List UInt8) :=
  [kindW.getD x.kind.toNat [], colourW.getD x.colour.toNat []] ++ (if x.kind = 1 then [] else [itoa x.a]) ++ (if x.kind = 3 then [itoa x.b] else [])
def wordsW (x : It) : List (List UInt8) := headW x ++ (if x.kind = 3 ∨ x.kind = 4 ∨ x.kind = 6 then atW x else [])
def fmtIt (x : It) : List UInt8 :=
  if x.kind = 6 then join (headW x) [32] ++ ([32, 34] ++ (x.text ++ ([34] ++ ([32] ++ join (atW x) [32])))) else join (wordsW x) [32]
def headF (f : Fc) : List (List UInt8) := [shapeW.getD f.shape.toNat [], itoa f.size] ++ (if f.shape = 2 then [itoa f.height] else [])
def fmtF (f : Fc) : List UInt8 :=
  if f.items = [] then join (headF f) [32] else join (headF f) [32] ++ ([58, 32] ++ join (f.items.map fmtIt) [59, 32])

/-! ### The rough reading -/
def numP (l : List UInt8) : Int := match atoiAll l with
  | .ok v => if l.length ≤ 3 then v else -1
  | _ => -1
def idxW (ws : List (List UInt8)) (x : List UInt8) : Int := if x ∈ ws then (ws.idxOf x : Int) else -1
/-- The numbers behind the first two words. -/
def readNs (k c : Int) (text : List UInt8) (n : List (List UInt8)) : Option It :=
  let p := if 3 ≤ n.length ∧ n.getD (n.length - 3) [] = [97, 116] then (numP (n.getD (n.length - 2) []), numP (n.getD (n.length - 1) []), n.take (n.length - 3)) else (0, 0, n)
  if 2 < p.2.2.length then none
  else some ⟨k, c, p.1, p.2.1, if 0 < p.2.2.length then numP (p.2.2.getD 0 []) else 0, if 1 < p.2.2.length then numP (p.2.2.getD 1 []) else 0, text⟩
def readWs (text : List UInt8) (w : List (List UInt8)) : Option It :=
  if w.length < 2 then none else readNs (idxW kindW (w.getD 0 [])) (idxW colourW (w.getD 1 [])) text (w.drop 2)
def readIt (s : List UInt8) : Option It :=
  if hasPrefix s [116, 101, 120, 116, 32] then
    let p := cut s [32, 34]
    let q := cut p.2.1 [34]
    if p.2.2 && q.2.2 then readWs q.1 (split (p.1 ++ q.2.1) [32]) else none
  else readWs [] (split s [32])
def readAll : List (List UInt8) → Option (List It)
  | [] => some []
  | s :: l => match readIt s with
    | none => none
    | some x => (readAll l).map (x :: ·)
def readF (s : List UInt8) : Option Fc :=
  let p := cut s [58, 32]
  let w := split p.1 [32]
  let f (l : List It) : Fc := ⟨idxW shapeW (w.getD 0 []), if 1 < w.length then numP (w.getD 1 []) else 0, if 2 < w.length then numP (w.getD 2 []) else 0, l⟩
  if p.2.2 then (readAll (split p.2.1 [59, 32])).map f else some (f [])

/-! ### The rough reading of a valid face's text is the face -/
def dg (u : Nat) : List UInt8 := if u < 10 then [UInt8.ofNat (48 + u)] else if u < 100 then [UInt8.ofNat (48 + u / 10), UInt8.ofNat (48 + u % 10)] else [UInt8.ofNat (48 + u / 10 / 10), UInt8.ofNat (48 + u / 10 % 10), UInt8.ofNat (48 + u % 10)]
theorem itoa_dg {n : Int} (h0 : 0 ≤ n) (h1 : n ≤ 200) : itoa n = dg n.toNat := by
  unfold itoa
  rw [if_neg (by omega)]
  have : n.toNat ≤ 200 := by omega
  generalize n.toNat = u at this
  unfold dg
  by_cases h : u < 10
  · rw [if_pos h, decDigits, dif_pos h]
  · rw [if_neg h, decDigits, dif_neg h]
    by_cases h2 : u < 100
    · rw [if_pos h2, decDigits, dif_pos (by omega)]; rfl
    · rw [if_neg h2, decDigits, dif_neg (by omega), decDigits, dif_pos (by omega)]; rfl
set_option maxRecDepth 100000 in
theorem numP_dg : ∀ u : Fin 201, numP (dg u.val) = (u.val : Int) := by decide
set_option maxRecDepth 100000 in
theorem dg_free : ∀ u : Fin 201, 32 ∉ dg u.val ∧ 34 ∉ dg u.val ∧ 58 ∉ dg u.val ∧ 59 ∉ dg u.val ∧ dg u.val ≠ [97, 116] := by decide
theorem numP_itoa {n : Int} (h0 : 0 ≤ n) (h1 : n ≤ 200) : numP (itoa n) = n := by
  rw [itoa_dg h0 h1]
  have := numP_dg ⟨n.toNat, by omega⟩
  rw [this]
  simp
  omega
theorem itoa_free {n : Int} (h0 : 0 ≤ n) (h1 : n ≤ 200) : 32 ∉ itoa n ∧ 34 ∉ itoa n ∧ 58 ∉ itoa n ∧ 59 ∉ itoa n ∧ itoa n ≠ [97, 116] := by
  rw [itoa_dg h0 h1]
  exact dg_free ⟨n.toNat, by omega⟩
end

section
def absI (n : Int) : Int := max n (-n)
/-- A dot at (x, y) from the middle belongs to the shape. -/
def partB (f : Fc) (x y : Int) : Bool :=
  if f.shape = 1 then decide (x * x + y * y ≤ f.size * f.size)
  else if f.shape = 3 then decide (absI x + absI y ≤ f.size)
  else if f.shape = 4 then decide (29 * (absI x + absI y) ≤ 41 * f.size)
  else if f.shape = 5 then decide (2 * heiF f * absI x ≤ f.size * (heiF f - y))
  else if f.shape = 6 then decide (2 * heiF f * absI x ≤ f.size * (heiF f + y))
  else true
/-- It lies within a rim of width b. -/
def midB (f : Fc) (x y b : Int) : Bool :=
  if f.shape = 1 then decide (0 < f.size - 2 * b ∧ x * x + y * y ≤ (f.size - 2 * b) * (f.size - 2 * b))
  else if f.shape = 3 then decide (absI x + absI y ≤ f.size - 3 * b)
  else if f.shape = 4 then decide (absI x < f.size - 2 * b ∧ absI y < f.size - 2 * b ∧ 29 * (absI x + absI y) ≤ 41 * (f.size - 2 * b))
  else if f.shape = 5 then decide (2 * heiF f * (absI x + 2 * b) ≤ f.size * (heiF f - y) ∧ 2 * b - heiF f < y)
  else if f.shape = 6 then decide (2 * heiF f * (absI x + 2 * b) ≤ f.size * (heiF f + y) ∧ y < heiF f - 2 * b)
  else decide (absI x < f.size - 2 * b ∧ absI y < heiF f - 2 * b)
/-- The bit of a letter's row in a column. -/
def bitL (r col : Int) : Bool := decide (r / 2 ^ (4 - col).toNat % 2 = 1)
/-- A dot is one of a text's letters. -/
def inkB (t : It) (i j : Int) : Bool :=
  let u := i - t.left
  let v := j - t.low
  if u < 0 ∨ v < 0 ∨ 7 * t.a ≤ v ∨ 6 * t.a * t.text.length ≤ u ∨ 5 * t.a ≤ u % (6 * t.a) then false
  else bitL ((rowsL ((t.text.getD (u / (6 * t.a)).toNat 0).toNat : Int)).getD (6 - v / t.a).toNat 0) (u % (6 * t.a) / t.a)
/-- An item paints the dot (i, j) of the shape. -/
def paintB (f : Fc) (t : It) (i j : Int) : Bool :=
  let x := 2 * i + 1 - f.size
  let y := 2 * j + 1 - heiF f
  if t.kind = 1 then true
  else if t.kind = 2 then !midB f x y t.a
  else if t.kind = 3 then decide (t.left ≤ i ∧ i < t.left + t.a ∧ t.low ≤ j ∧ j < t.low + t.b)
  else if t.kind = 4 then decide ((2 * (i - t.left) + 1 - t.a) * (2 * (i - t.left) + 1 - t.a) + (2 * (j - t.low) + 1 - t.a) * (2 * (j - t.low) + 1 - t.a) ≤ t.a * t.a)
  else if t.kind = 5 then decide (2 * absI (x * heiF f - y * f.size) ≤ t.a * (f.size + heiF f))
  else inkB t i j
/-- The last of the first k items that has p, or -1. -/
def topK (p : It → Bool) (l : List It) : Nat → Int
  | 0 => -1
  | k + 1 => match l[k]? with
    | some x => if p x then (k : Int) else topK p l k
    | none => topK p l k
theorem topK_bounds (p : It → Bool) (l : List It) (k : Nat) : -1 ≤ topK p l k ∧ topK p l k < k := by
  induction k with
  | zero => simp [topK]
  | succ k ih =>
    unfold topK
    split
    · split <;> omega
    · omega
theorem topK_hit {p : It → Bool} {l : List It} {k : Nat} (h : k < l.length) (hp : p l[k] = true) : topK p l (k + 1) = k := by
  simp [topK, h, hp]
theorem topK_miss {p : It → Bool} {l : List It} {k : Nat} (h : k < l.length) (hp : p l[k] = false) : topK p l (k + 1) = topK p l k := by
  simp [topK, h, hp]
/-- The index of the item that is seen at a dot, or -1. -/
def topI (f : Fc) (i j : Int) : Int := topK (fun t => paintB f t i j) f.items f.items.length
def colK (f : Fc) (i j : Int) (k : Nat) : Int :=
  if partB f (2 * i + 1 - f.size) (2 * j + 1 - heiF f) then
    if topK (fun t => paintB f t i j) f.items k < 0 then 9 else match f.items[(topK (fun t => paintB f t i j) f.items k).toNat]? with
      | some x => x.colour
      | none => 9
  else 0
/-- The colour of a dot of the box. -/
def colI (f : Fc) (i j : Int) : Int := colK f i j f.items.length
/-- The colour of any dot. -/
def colAt (f : Fc) (i j : Int) : Int := if 0 ≤ i ∧ i < f.size ∧ 0 ≤ j ∧ j < heiF f then colI f i j else 0
theorem heiF_bounds {f : Fc} (h : fcB f = true) : 1 ≤ heiF f ∧ heiF f ≤ 200 := by
  simp only [fcB, Bool.and_eq_true, decide_eq_true_eq] at h
  obtain ⟨⟨⟨⟨hs, hz⟩, -⟩, hg⟩, -⟩ := h
  unfold heiF
  split
  · rename_i e
    rw [if_pos e] at hg
    simp at hg
    omega
  · split <;> omega
theorem size_bounds {f : Fc} (h : fcB f = true) : 4 ≤ f.size ∧ f.size ≤ 200 := by
  simp only [fcB, Bool.and_eq_true, decide_eq_true_eq] at h
  exact h.1.1.1.2
theorem items_valid {f : Fc} (h : fcB f = true) : ∀ x ∈ f.items, itB x = true := by
  simp only [fcB, Bool.and_eq_true] at h
  exact List.all_eq_true.1 h.2
/-- The bounds that a valid item's numbers keep. -/
theorem it_bounds {x : It} (h : itB x = true) : 1 ≤ x.kind ∧ x.kind ≤ 6 ∧ 1 ≤ x.colour ∧ x.colour ≤ 8 ∧ 0 ≤ x.left ∧ x.left ≤ 200 ∧ 0 ≤ x.low ∧ x.low ≤ 200 ∧ 0 ≤ x.a ∧ x.a ≤ 200 ∧ (x.kind ≠ 1 → 1 ≤ x.a) ∧ 0 ≤ x.b ∧ x.b ≤ 200 ∧ x.text.length ≤ 24 := by
  simp only [itB, Bool.and_eq_true, decide_eq_true_eq] at h
  obtain ⟨⟨⟨⟨⟨⟨hk, hc⟩, hl⟩, hw⟩, ha⟩, hb⟩, ht⟩ := h
  have ht' : x.text.length ≤ 24 := by
    split at ht
    · simp only [spellB, Bool.and_eq_true, decide_eq_true_eq] at ht
      omega
    · rw [List.isEmpty_iff] at ht
      simp [ht]
  unfold useB at hl hw ha hb
  refine ⟨hk.1, hk.2, hc.1, hc.2, ?_, ?_, ?_, ?_, ?_, ?_, ?_, ?_, ?_, ht'⟩
  all_goals (first | (intro hn; rw [if_pos (by simpa using hn)] at ha; simp at ha; omega) | (clear ht; split at hl <;> split at hw <;> split at ha <;> split at hb <;> simp at hl hw ha hb <;> omega))
theorem colI_bounds {f : Fc} (h : fcB f = true) (i j : Int) : 0 ≤ colI f i j ∧ colI f i j ≤ 9 := by
  unfold colI colK
  split
  · split
    · omega
    · split
      · rename_i x e
        have := it_bounds (items_valid h x (List.mem_of_getElem? e))
        omega
      · omega
  · omega
end

section
structure Rn where
  fr : Int
  cnt : Int
  col : Int
/-- One dot more in the last run. -/
def bump : List Rn → List Rn
  | [] => []
  | [r] => [⟨r.fr, r.cnt + 1, r.col⟩]
  | r :: s :: l => r :: bump (s :: l)
theorem bump_snoc (l : List Rn) (r : Rn) : bump (l ++ [r]) = l ++ [⟨r.fr, r.cnt + 1, r.col⟩] := by
  induction l with
  | nil => rfl
  | cons a l ih =>
    cases l with
    | nil => rfl
    | cons b l => simpa [bump] using ih
/-- The runs of the first k dots. -/
def runsK (c : Nat → Int) : Nat → List Rn
  | 0 => []
  | k + 1 => if c k = 0 then runsK c k else if 0 < k ∧ c (k - 1) = c k then bump (runsK c k) else runsK c k ++ [⟨k, 1, c k⟩]
/-- What is known of the last run. -/
theorem runs_last (c : Nat → Int) (k : Nat) :
    (∀ (l : List Rn) (r : Rn), runsK c k = l ++ [r] → 0 ≤ r.fr ∧ 1 ≤ r.cnt ∧ r.fr + r.cnt ≤ k ∧ (r.fr + r.cnt = k → 0 < k ∧ c (k - 1) = r.col)) ∧
    (0 < k → c (k - 1) ≠ 0 → ∃ (l : List Rn) (r : Rn), runsK c k = l ++ [r] ∧ r.fr + r.cnt = k ∧ r.col = c (k - 1)) := by
  induction k with
  | zero => exact ⟨fun l r h => by simp [runsK] at h, fun h => absurd h (by omega)⟩
  | succ k ih =>
    by_cases h0 : c k = 0
    · have e : runsK c (k + 1) = runsK c k := by rw [runsK, if_pos h0]
      refine ⟨fun l r h => ?_, fun _ h => absurd h0 (by simpa using h)⟩
      rw [e] at h
      obtain ⟨a, b, d, -⟩ := ih.1 l r h
      exact ⟨a, b, by omega, fun h => by omega⟩
    · by_cases h1 : 0 < k ∧ c (k - 1) = c k
      · have e : runsK c (k + 1) = bump (runsK c k) := by rw [runsK, if_neg h0, if_pos h1]
        obtain ⟨l0, r0, e0, e1, e2⟩ := ih.2 h1.1 (by rw [h1.2]; exact h0)
        obtain ⟨a, b, d, -⟩ := ih.1 l0 r0 e0
        rw [e0, bump_snoc] at e
        refine ⟨fun l r h => ?_, fun _ _ => ⟨_, _, e, by simp; omega, by simp [e2, h1.2]⟩⟩
        rw [e] at h
        obtain ⟨-, h⟩ := List.append_inj' h rfl
        injection h with h
        subst h
        exact ⟨a, by simp; omega, by simp; omega, fun _ => ⟨by omega, by simp [e2, h1.2]⟩⟩
      · have e : runsK c (k + 1) = runsK c k ++ [⟨k, 1, c k⟩] := by rw [runsK, if_neg h0, if_neg h1]
        refine ⟨fun l r h => ?_, fun _ _ => ⟨_, _, e, by simp, by simp⟩⟩
        rw [e] at h
        obtain ⟨-, h⟩ := List.append_inj' h rfl
        injection h with h
        subst h
        exact ⟨by simp, by simp, by simp, fun _ => ⟨by omega, by simp⟩⟩
/-- The reference's test for 'the same run' is the program's. -/
theorem runs_same {c : Nat → Int} {k : Nat} (h0 : c k ≠ 0) : (∃ (l : List Rn) (r : Rn), runsK c k = l ++ [r] ∧ r.col = c k ∧ r.fr + r.cnt = k) ↔ (0 < k ∧ c (k - 1) = c k) := by
  obtain ⟨h1, h2⟩ := runs_last c k
  constructor
  · rintro ⟨l, r, e, e1, e2⟩
    obtain ⟨-, -, -, h⟩ := h1 l r e
    obtain ⟨a, b⟩ := h e2
    exact ⟨a, by rw [b, e1]⟩
  · rintro ⟨a, b⟩
    obtain ⟨l, r, e, e1, e2⟩ := h2 a (by rw [b]; exact h0)
    exact ⟨l, r, e, by rw [e2, b], e1⟩
/-- How many of the first k dots have the colour v. -/
def cntK (c : Nat → Int) (v : Int) : Nat → Int
  | 0 => 0
  | k + 1 => cntK c v k + (if c k = v then 1 else 0)
/-- How many dots the runs of the colour v hold. -/
def sumV (v : Int) : List Rn → Int
  | [] => 0
  | r :: l => (if r.col = v then r.cnt else 0) + sumV v l
def sumA : List Rn → Int
  | [] => 0
  | r :: l => r.cnt + sumA l
theorem sumV_app (v : Int) (l m : List Rn) : sumV v (l ++ m) = sumV v l + sumV v m := by
  induction l with
  | nil => simp [sumV]
  | cons r l ih => simp [sumV, ih]; omega
theorem sumA_app (l m : List Rn) : sumA (l ++ m) = sumA l + sumA m := by
  induction l with
  | nil => simp [sumA]
  | cons r l ih => simp [sumA, ih]; omega
theorem runs_sums (c : Nat → Int) (k : Nat) : (∀ v, v ≠ 0 → sumV v (runsK c k) = cntK c v k) ∧ sumA (runsK c k) + cntK c 0 k = k := by
  induction k with
  | zero => exact ⟨fun _ _ => rfl, rfl⟩
  | succ k ih =>
    by_cases h0 : c k = 0
    · have e : runsK c (k + 1) = runsK c k := by rw [runsK, if_pos h0]
      refine ⟨fun v hv => ?_, ?_⟩
      · rw [e, ih.1 v hv, cntK, if_neg (by rw [h0]; exact fun h => hv h.symm)]; omega
      · rw [e, cntK, if_pos h0]; have := ih.2; omega
    · by_cases h1 : 0 < k ∧ c (k - 1) = c k
      · have e : runsK c (k + 1) = bump (runsK c k) := by rw [runsK, if_neg h0, if_pos h1]
        obtain ⟨l0, r0, e0, e1, e2⟩ := (runs_last c k).2 h1.1 (by rw [h1.2]; exact h0)
        rw [e0, bump_snoc] at e
        refine ⟨fun v hv => ?_, ?_⟩
        · have := ih.1 v hv
          rw [e0, sumV_app] at this
          rw [e, sumV_app, cntK, ← this]
          simp only [sumV, e2, h1.2]
          split <;> omega
        · have := ih.2
          rw [e0, sumA_app] at this
          rw [e, sumA_app, cntK, if_neg h0]
          simp only [sumA] at this ⊢
          omega
      · have e : runsK c (k + 1) = runsK c k ++ [⟨k, 1, c k⟩] := by rw [runsK, if_neg h0, if_neg h1]
        refine ⟨fun v hv => ?_, ?_⟩
        · rw [e, sumV_app, cntK, ih.1 v hv]
          simp [sumV]
        · rw [e, sumA_app, cntK, if_neg h0]
          have := ih.2
          simp [sumA]
          omega


/-- These are the runs of the first k dots. -/
structure RunsOk (c : Nat → Int) (k : Nat) (l : List Rn) : Prop where
  each : ∀ r ∈ l, 0 ≤ r.fr ∧ 1 ≤ r.cnt ∧ r.fr + r.cnt ≤ k ∧ ∀ i : Nat, r.fr ≤ i → (i : Int) < r.fr + r.cnt → c i = r.col ∧ c i ≠ 0
  apart : l.Pairwise fun r s => r.fr + r.cnt ≤ s.fr ∧ (r.fr + r.cnt = s.fr → r.col ≠ s.col)
  all : ∀ i : Nat, i < k → c i ≠ 0 → ∃ r ∈ l, r.fr ≤ i ∧ (i : Int) < r.fr + r.cnt
theorem RunsOk.nil (c : Nat → Int) : RunsOk c 0 [] := ⟨by simp, by simp, fun i h => by omega⟩
theorem runs_ok (c : Nat → Int) (k : Nat) : RunsOk c k (runsK c k) := by
  induction k with
  | zero => exact RunsOk.nil c
  | succ k ih =>
    by_cases h0 : c k = 0
    · have e : runsK c (k + 1) = runsK c k := by rw [runsK, if_pos h0]
      rw [e]
      refine ⟨fun r hr => ?_, ih.apart, fun i hi hc => ?_⟩
      · obtain ⟨a, b, d, f⟩ := ih.each r hr
        exact ⟨a, b, by omega, f⟩
      · by_cases ei : i = k
        · subst ei; exact absurd h0 hc
        · exact ih.all i (by omega) hc
    · by_cases h1 : 0 < k ∧ c (k - 1) = c k
      · have e : runsK c (k + 1) = bump (runsK c k) := by rw [runsK, if_neg h0, if_pos h1]
        obtain ⟨l0, r0, e0, e1, e2⟩ := (runs_last c k).2 h1.1 (by rw [h1.2]; exact h0)
        rw [e, e0, bump_snoc]
        rw [e0] at ih
        have hap := List.pairwise_append.1 ih.apart
        refine ⟨fun r hr => ?_, List.pairwise_append.2 ⟨hap.1, by simp, fun a ha b hb => ?_⟩, fun i hi hc => ?_⟩
        · simp only [List.mem_append, List.mem_cons, List.not_mem_nil, or_false] at hr
          rcases hr with hr | rfl
          · obtain ⟨a, b, d, f⟩ := ih.each r (by simp [hr])
            exact ⟨a, b, by omega, f⟩
          · obtain ⟨a, b, d, f⟩ := ih.each r0 (by simp)
            refine ⟨a, by dsimp only; omega, by dsimp only; omega, fun i g1 g2 => ?_⟩
            dsimp only at g1 g2 ⊢
            by_cases ei : i = k
            · subst ei; exact ⟨by rw [e2, h1.2], h0⟩
            · exact f i g1 (by omega)
        · obtain rfl : b = ⟨r0.fr, r0.cnt + 1, r0.col⟩ := by simpa using hb
          exact hap.2.2 a ha r0 (by simp)
        · by_cases ei : i = k
          · subst ei; exact ⟨⟨r0.fr, r0.cnt + 1, r0.col⟩, by simp, by have := (ih.each r0 (by simp)); dsimp only; omega, by dsimp only; omega⟩
          · obtain ⟨r, hr, g1, g2⟩ := ih.all i (by omega) hc
            simp only [List.mem_append, List.mem_cons, List.not_mem_nil, or_false] at hr
            rcases hr with hr | rfl
            · exact ⟨r, by simp [hr], g1, g2⟩
            · exact ⟨⟨r.fr, r.cnt + 1, r.col⟩, by simp, g1, by dsimp only; omega⟩
      · have e : runsK c (k + 1) = runsK c k ++ [⟨k, 1, c k⟩] := by rw [runsK, if_neg h0, if_neg h1]
        rw [e]
        refine ⟨fun r hr => ?_, List.pairwise_append.2 ⟨ih.apart, by simp, fun a ha b hb => ?_⟩, fun i hi hc => ?_⟩
        · simp only [List.mem_append, List.mem_cons, List.not_mem_nil, or_false] at hr
          rcases hr with hr | rfl
          · obtain ⟨a, b, d, f⟩ := ih.each r hr
            exact ⟨a, b, by omega, f⟩
          · refine ⟨by simp, by simp, by simp, fun i g1 g2 => ?_⟩
            dsimp only at g1 g2 ⊢
            obtain rfl : i = k := by omega
            exact ⟨rfl, h0⟩
        · obtain rfl : b = ⟨k, 1, c k⟩ := by simpa using hb
          obtain ⟨g1, g2, g3, g4⟩ := ih.each a ha
          refine ⟨g3, fun g5 g6 => h1 ?_⟩
          dsimp only at g5 g6
          have hk : 0 < k := by omega
          refine ⟨hk, ?_⟩
          rw [(g4 (k - 1) (by omega) (by omega)).1, g6]
        · by_cases ei : i = k
          · subst ei; exact ⟨⟨i, 1, c i⟩, by simp, by dsimp only; omega, by dsimp only; omega⟩
          · obtain ⟨r, hr, g⟩ := ih.all i (by omega) hc
            exact ⟨r, by simp [hr], g⟩
/-- There is one list of runs. -/
theorem RunsOk.unique {c : Nat → Int} {k : Nat} : ∀ (l m : List Rn), (∀ r ∈ l, 0 ≤ r.fr ∧ 1 ≤ r.cnt ∧ r.fr + r.cnt ≤ k ∧ ∀ i : Nat, r.fr ≤ i → (i : Int) < r.fr + r.cnt → c i = r.col ∧ c i ≠ 0) →
    (∀ r ∈ m, 0 ≤ r.fr ∧ 1 ≤ r.cnt ∧ r.fr + r.cnt ≤ k ∧ ∀ i : Nat, r.fr ≤ i → (i : Int) < r.fr + r.cnt → c i = r.col ∧ c i ≠ 0) →
    (l.Pairwise fun r s => r.fr + r.cnt ≤ s.fr ∧ (r.fr + r.cnt = s.fr → r.col ≠ s.col)) → (m.Pairwise fun r s => r.fr + r.cnt ≤ s.fr ∧ (r.fr + r.cnt = s.fr → r.col ≠ s.col)) →
    (∀ i : Nat, (∃ r ∈ l, r.fr ≤ i ∧ (i : Int) < r.fr + r.cnt) ↔ (∃ r ∈ m, r.fr ≤ i ∧ (i : Int) < r.fr + r.cnt)) → l = m
  | [], [], _, _, _, _, _ => rfl
  | [], s :: m, _, hm, _, _, ha => by
    obtain ⟨a, b, -, -⟩ := hm s (by simp)
    obtain ⟨n, hn⟩ := Int.eq_ofNat_of_zero_le a
    obtain ⟨r, hr, -⟩ := (ha n).2 ⟨s, by simp, by omega, by omega⟩
    simp at hr
  | r :: l, [], hl, _, _, _, ha => by
    obtain ⟨a, b, -, -⟩ := hl r (by simp)
    obtain ⟨n, hn⟩ := Int.eq_ofNat_of_zero_le a
    obtain ⟨s, hs, -⟩ := (ha n).1 ⟨r, by simp, by omega, by omega⟩
    simp at hs
  | r :: l, s :: m, hl, hm, pl, pm, ha => by
    obtain ⟨pl1, pl2⟩ := List.pairwise_cons.1 pl
    obtain ⟨pm1, pm2⟩ := List.pairwise_cons.1 pm
    obtain ⟨r1, r2, r3, r4⟩ := hl r (by simp)
    obtain ⟨s1, s2, s3, s4⟩ := hm s (by simp)
    -- the first dot is the same
    have low : ∀ x ∈ r :: l, r.fr ≤ x.fr := fun x hx => by
      rcases List.mem_cons.1 hx with rfl | hx
      · exact Int.le_refl _
      · have := (pl1 x hx).1; omega
    have lowm : ∀ x ∈ s :: m, s.fr ≤ x.fr := fun x hx => by
      rcases List.mem_cons.1 hx with rfl | hx
      · exact Int.le_refl _
      · have := (pm1 x hx).1; omega
    have e1 : r.fr = s.fr := by
      obtain ⟨n, hn⟩ := Int.eq_ofNat_of_zero_le r1
      obtain ⟨n', hn'⟩ := Int.eq_ofNat_of_zero_le s1
      obtain ⟨x, hx, x1, -⟩ := (ha n).1 ⟨r, by simp, by omega, by omega⟩
      obtain ⟨y, hy, y1, -⟩ := (ha n').2 ⟨s, by simp, by omega, by omega⟩
      have := lowm x hx; have := low y hy
      omega
    obtain ⟨n, hn⟩ := Int.eq_ofNat_of_zero_le r1
    have e2 : r.col = s.col := by rw [← (r4 n (by omega) (by omega)).1, (s4 n (by omega) (by omega)).1]
    -- and the last one
    have half : ∀ (a b : Rn) (t u : List Rn), a.fr = b.fr → a.col = b.col → 0 ≤ a.fr → 1 ≤ b.cnt → (∀ i : Nat, a.fr ≤ i → (i : Int) < a.fr + a.cnt → c i = a.col ∧ c i ≠ 0) →
        (∀ x ∈ u, b.fr + b.cnt ≤ x.fr ∧ (b.fr + b.cnt = x.fr → b.col ≠ x.col)) → (∀ x ∈ b :: u, ∀ i : Nat, x.fr ≤ i → (i : Int) < x.fr + x.cnt → c i = x.col ∧ c i ≠ 0) →
        (∀ i : Nat, (∃ r ∈ a :: t, r.fr ≤ i ∧ (i : Int) < r.fr + r.cnt) → (∃ r ∈ b :: u, r.fr ≤ i ∧ (i : Int) < r.fr + r.cnt)) → a.cnt ≤ b.cnt := by
      intro a b t u f1 f2 f3 f4 f5 f6 f7 f8
      by_cases hlt : a.cnt ≤ b.cnt
      · exact hlt
      · exfalso
        obtain ⟨q, hq⟩ := Int.eq_ofNat_of_zero_le (show 0 ≤ b.fr + b.cnt by omega)
        obtain ⟨x, hx, x1, x2⟩ := f8 q ⟨a, by simp, by omega, by omega⟩
        rcases List.mem_cons.1 hx with rfl | hx'
        · omega
        · obtain ⟨g1, g2⟩ := f6 x hx'
          have c1 := (f5 q (by omega) (by omega)).1
          have c2 := (f7 x hx q x1 x2).1
          exact g2 (by omega) (by rw [← f2, ← c1, c2])
    have e3 : r.cnt = s.cnt := by
      have h1 := half r s l m e1 e2 r1 s2 r4 pm1 (fun x hx => (hm x hx).2.2.2) (fun i h => (ha i).1 h)
      have h2 := half s r m l e1.symm e2.symm s1 r2 s4 pl1 (fun x hx => (hl x hx).2.2.2) (fun i h => (ha i).2 h)
      omega
    have e : r = s := by
      cases r; cases s; simp only at e1 e2 e3; subst e1 e2 e3; rfl
    subst e
    congr 1
    refine RunsOk.unique l m (fun x hx => hl x (by simp [hx])) (fun x hx => hm x (by simp [hx])) pl2 pm2 fun i => ?_
    constructor
    · rintro ⟨x, hx, x1, x2⟩
      obtain ⟨y, hy, y1, y2⟩ := (ha i).1 ⟨x, by simp [hx], x1, x2⟩
      rcases List.mem_cons.1 hy with rfl | hy
      · have := (pl1 x hx).1; omega
      · exact ⟨y, hy, y1, y2⟩
    · rintro ⟨x, hx, x1, x2⟩
      obtain ⟨y, hy, y1, y2⟩ := (ha i).2 ⟨x, by simp [hx], x1, x2⟩
      rcases List.mem_cons.1 hy with rfl | hy
      · have := (pm1 x hx).1; omega
      · exact ⟨y, hy, y1, y2⟩
def flipR (k : Nat) (r : Rn) : Rn := ⟨k - r.fr - r.cnt, r.cnt, r.col⟩
theorem runs_flip {c : Nat → Int} {k : Nat} (hc : ∀ i, i < k → c i = c (k - 1 - i)) : ((runsK c k).map (flipR k)).reverse = runsK c k := by
  have h := runs_ok c k
  have each : ∀ r ∈ ((runsK c k).map (flipR k)).reverse, 0 ≤ r.fr ∧ 1 ≤ r.cnt ∧ r.fr + r.cnt ≤ k ∧ ∀ i : Nat, r.fr ≤ i → (i : Int) < r.fr + r.cnt → c i = r.col ∧ c i ≠ 0 := by
    intro r hr
    simp only [List.mem_reverse, List.mem_map] at hr
    obtain ⟨s, hs, rfl⟩ := hr
    obtain ⟨a, b, d, f⟩ := h.each s hs
    refine ⟨by simp only [flipR]; omega, b, by simp only [flipR]; omega, fun i g1 g2 => ?_⟩
    simp only [flipR] at g1 g2 ⊢
    rw [hc i (by omega)]
    exact f _ (by omega) (by omega)
  have hap : (((runsK c k).map (flipR k)).reverse).Pairwise fun r s => r.fr + r.cnt ≤ s.fr ∧ (r.fr + r.cnt = s.fr → r.col ≠ s.col) := by
    rw [List.pairwise_reverse, List.pairwise_map]
    refine h.apart.imp fun {r s} ⟨g1, g2⟩ => ?_
    simp only [flipR]
    exact ⟨by omega, fun e e2 => g2 (by omega) e2.symm⟩
  refine RunsOk.unique _ _ each h.each hap h.apart fun i => ?_
  constructor
  · rintro ⟨r, hr, g1, g2⟩
    obtain ⟨a, b, d, f⟩ := each r hr
    exact h.all i (by omega) (f i g1 g2).2
  · rintro ⟨r, hr, g1, g2⟩
    obtain ⟨a, b, d, f⟩ := h.each r hr
    have := (f i g1 g2).2
    rw [hc i (by omega)] at this
    obtain ⟨s, hs, s1, s2⟩ := h.all _ (by omega) this
    exact ⟨flipR k s, by simp only [List.mem_reverse, List.mem_map]; exact ⟨s, hs, rfl⟩, by simp only [flipR]; omega, by simp only [flipR]; omega⟩
theorem runs_mirror {c : Nat → Int} {k : Nat} (hc : ∀ i, i < k → c i = c (k - 1 - i)) {i : Nat} (hi : i < (runsK c k).length) :
    (runsK c k)[i] = flipR k ((runsK c k)[(runsK c k).length - 1 - i]'(by omega)) := by
  have h : ((runsK c k).map (flipR k)).reverse[i]? = (runsK c k)[i]? := by rw [runs_flip hc]
  rw [List.getElem?_reverse (by simpa using hi), List.getElem?_eq_getElem hi] at h
  simp only [List.length_map, List.getElem?_map] at h
  rw [List.getElem?_eq_getElem (by omega)] at h
  simpa using h.symm


def rowC (f : Fc) (j : Nat) : Nat → Int := fun i => colI f i j
/-- How many dots of the first j rows have the colour v. -/
def areaJ (f : Fc) (v : Int) : Nat → Int
  | 0 => 0
  | j + 1 => areaJ f v j + cntK (rowC f j) v f.size.toNat
/-- How many of the first n dots have it. -/
def cntN (f : Fc) (v : Int) : Nat → Int
  | 0 => 0
  | n + 1 => cntN f v n + (if colI f ((n % f.size.toNat : Nat) : Int) ((n / f.size.toNat : Nat) : Int) = v then 1 else 0)
theorem cntN_row (f : Fc) (v : Int) (hw : 0 < f.size.toNat) (j i : Nat) (hi : i ≤ f.size.toNat) : cntN f v (j * f.size.toNat + i) = cntN f v (j * f.size.toNat) + cntK (rowC f j) v i := by
  induction i with
  | zero => simp [cntK]
  | succ i ih =>
    have e1 : (j * f.size.toNat + i) % f.size.toNat = i := by
      rw [Nat.add_comm, Nat.add_mul_mod_self_right, Nat.mod_eq_of_lt (by omega)]
    have e2 : (j * f.size.toNat + i) / f.size.toNat = j := by
      rw [Nat.add_comm, Nat.add_mul_div_right _ _ hw, Nat.div_eq_of_lt (by omega)]; omega
    rw [← Nat.add_assoc, cntN, ih (by omega), e1, e2, cntK]
    simp only [rowC]
    omega
theorem cntN_rows (f : Fc) (v : Int) (hw : 0 < f.size.toNat) (j : Nat) : cntN f v (j * f.size.toNat) = areaJ f v j := by
  induction j with
  | zero => rw [Nat.zero_mul]; rfl
  | succ j ih => rw [Nat.add_mul, Nat.one_mul, cntN_row f v hw j _ (Nat.le_refl _), ih, areaJ]
theorem cntK_bounds (c : Nat → Int) (v : Int) (k : Nat) : 0 ≤ cntK c v k ∧ cntK c v k ≤ k := by
  induction k with
  | zero => simp [cntK]
  | succ k ih => unfold cntK; split <;> omega
theorem areaJ_bounds (f : Fc) (v : Int) (j : Nat) : 0 ≤ areaJ f v j ∧ areaJ f v j ≤ j * f.size.toNat := by
  induction j with
  | zero => simp [areaJ]
  | succ j ih =>
    obtain ⟨a, b⟩ := cntK_bounds (rowC f j) v f.size.toNat
    unfold areaJ
    have e : ((j + 1 : Nat) : Int) * f.size.toNat = j * f.size.toNat + f.size.toNat := by rw [Int.natCast_add, Int.add_mul]; simp
    omega
/-- Each dot has one of the ten colours. -/
theorem cntK_all {c : Nat → Int} (hc : ∀ i, 0 ≤ c i ∧ c i ≤ 9) (k : Nat) : cntK c 0 k + cntK c 1 k + cntK c 2 k + cntK c 3 k + cntK c 4 k + cntK c 5 k + cntK c 6 k + cntK c 7 k + cntK c 8 k + cntK c 9 k = k := by
  induction k with
  | zero => rfl
  | succ k ih =>
    have := hc k
    have h : c k = 0 ∨ c k = 1 ∨ c k = 2 ∨ c k = 3 ∨ c k = 4 ∨ c k = 5 ∨ c k = 6 ∨ c k = 7 ∨ c k = 8 ∨ c k = 9 := by omega
    simp only [cntK]
    rcases h with h | h | h | h | h | h | h | h | h | h <;> rw [h] <;> simp <;> omega
theorem areaJ_all {f : Fc} (h : fcB f = true) (j : Nat) : areaJ f 0 j + areaJ f 1 j + areaJ f 2 j + areaJ f 3 j + areaJ f 4 j + areaJ f 5 j + areaJ f 6 j + areaJ f 7 j + areaJ f 8 j + areaJ f 9 j = j * f.size := by
  induction j with
  | zero => simp [areaJ]
  | succ j ih =>
    have := cntK_all (c := rowC f j) (fun i => colI_bounds h _ _) f.size.toNat
    have hs := size_bounds h
    simp only [areaJ]
    have e : ((j + 1 : Nat) : Int) * f.size = j * f.size + f.size := by rw [Int.natCast_add, Int.add_mul]; simp
    omega
/-- The area of a colour. -/
def areaP (f : Fc) (v : Int) : Int := areaJ f v (heiF f).toNat
/-- The colours from 1 to k that are seen. -/
def screensK (f : Fc) : Nat → List Int
  | 0 => []
  | k + 1 => if 0 < areaP f ((k + 1 : Nat) : Int) then screensK f k ++ [((k + 1 : Nat) : Int)] else screensK f k


def arrJ (f : Fc) (j : Nat) : List Int := (List.range 10).map fun (v : Nat) => areaJ f (v : Int) j
def rowV (f : Fc) (j r : Nat) (v : Nat) : Int :=
  if v = 0 then areaJ f 0 j + f.size - sumA ((runsK (rowC f j) f.size.toNat).take r) else areaJ f (v : Int) j + sumV (v : Int) ((runsK (rowC f j) f.size.toNat).take r)
/-- The areas when j rows and r runs of the next one are counted. -/
def rowS (f : Fc) (j r : Nat) : List Int := (List.range 10).map (rowV f j r)
theorem arrJ_len (f : Fc) (j : Nat) : (arrJ f j).length = 10 := by simp [arrJ]
theorem rowS_len (f : Fc) (j r : Nat) : (rowS f j r).length = 10 := by simp [rowS]
theorem arrJ_at (f : Fc) (j : Nat) {v : Nat} (h : v < 10) : (arrJ f j)[v]? = some (areaJ f (v : Int) j) := by simp [arrJ, h]
theorem rowS_at (f : Fc) (j r : Nat) {v : Nat} (h : v < 10) : (rowS f j r)[v]? = some (rowV f j r v) := by simp [rowS, h]
theorem rowS_start (f : Fc) (j : Nat) : rowS f j 0 = (arrJ f j).set 0 (areaJ f 0 j + f.size) := by
  apply List.ext_getElem?
  intro u
  rw [List.getElem?_set]
  by_cases e : 0 = u
  · subst e
    simp [rowS, arrJ, rowV, sumA]
  · rw [if_neg e]
    by_cases hu : u < 10
    · simp only [rowS, arrJ, List.getElem?_map, List.getElem?_range hu, Option.map_some, rowV, if_neg (show ¬ u = 0 by omega), List.take_zero, sumV, Int.add_zero]
    · simp [rowS, arrJ, hu]
theorem rowV_next {f : Fc} {j r : Nat} (hr : r < (runsK (rowC f j) f.size.toNat).length) (v : Nat) :
    rowV f j (r + 1) v = if v = 0 then rowV f j r 0 - (runsK (rowC f j) f.size.toNat)[r].cnt else rowV f j r v + (if (runsK (rowC f j) f.size.toNat)[r].col = (v : Int) then (runsK (rowC f j) f.size.toNat)[r].cnt else 0) := by
  unfold rowV
  rw [List.take_succ_eq_append_getElem hr, sumA_app, sumV_app]
  by_cases e : v = 0
  · subst e
    simp [sumA]
    omega
  · rw [if_neg e, if_neg e, if_neg e]
    simp [sumV]
    omega
theorem rowS_next {f : Fc} {j r cv : Nat} (hr : r < (runsK (rowC f j) f.size.toNat).length) (h1 : 1 ≤ cv) (h9 : cv < 10) (hc : (runsK (rowC f j) f.size.toNat)[r].col = (cv : Int)) :
    rowS f j (r + 1) = ((rowS f j r).set cv (rowV f j r cv + (runsK (rowC f j) f.size.toNat)[r].cnt)).set 0 (rowV f j r 0 - (runsK (rowC f j) f.size.toNat)[r].cnt) := by
  apply List.ext_getElem?
  intro u
  rw [List.getElem?_set, List.getElem?_set]
  by_cases e0 : 0 = u
  · subst e0
    simp [rowS, rowV_next hr]
  · rw [if_neg e0]
    by_cases ec : cv = u
    · subst ec
      rw [if_pos rfl]
      simp only [rowS, List.length_map, List.length_range, h9, if_true, List.getElem?_map, List.getElem?_range h9, Option.map_some, rowV_next hr, if_neg (show ¬ cv = 0 by omega), if_pos hc]
    · rw [if_neg ec]
      by_cases hu : u < 10
      · have hne : ¬ (runsK (rowC f j) f.size.toNat)[r].col = (u : Int) := by rw [hc]; omega
        simp only [rowS, List.getElem?_map, List.getElem?_range hu, Option.map_some, rowV_next hr, if_neg (show ¬ u = 0 by omega), if_neg hne, Int.add_zero]
      · simp [rowS, hu]
theorem rowS_end {f : Fc} (h : fcB f = true) (j : Nat) : rowS f j (runsK (rowC f j) f.size.toNat).length = arrJ f (j + 1) := by
  obtain ⟨h1, h2⟩ := runs_sums (rowC f j) f.size.toNat
  obtain ⟨s0, s1⟩ := size_bounds h
  unfold rowS arrJ
  apply List.map_congr_left
  intro v _
  unfold rowV
  rw [List.take_length, areaJ]
  split
  · rename_i e
    subst e
    have : ((f.size.toNat : Nat) : Int) = f.size := by omega
    simp only [Int.natCast_zero] at *
    omega
  · rw [h1 (v : Int) (by omega)]
theorem arrJ_all (f : Fc) : arrJ f (heiF f).toNat = (List.range 10).map fun (v : Nat) => areaP f (v : Int) := rfl
end

section
open Go.Lib

set_option maxRecDepth 100000 in
theorem colour_words : ∀ c : Fin 9, 32 ∉ colourW.getD c.val [] ∧ 34 ∉ colourW.getD c.val [] ∧ 58 ∉ colourW.getD c.val [] ∧ 59 ∉ colourW.getD c.val [] ∧ idxW colourW (colourW.getD c.val []) = (c.val : Int) ∧ colourW.getD c.val [] ≠ [97, 116] := by decide
set_option maxRecDepth 100000 in
theorem kind_words : ∀ c : Fin 7, 32 ∉ kindW.getD c.val [] ∧ 34 ∉ kindW.getD c.val [] ∧ 58 ∉ kindW.getD c.val [] ∧ 59 ∉ kindW.getD c.val [] ∧ idxW kindW (kindW.getD c.val []) = (c.val : Int) := by decide
set_option maxRecDepth 100000 in
theorem shape_words : ∀ c : Fin 7, 32 ∉ shapeW.getD c.val [] ∧ 58 ∉ shapeW.getD c.val [] ∧ idxW shapeW (shapeW.getD c.val []) = (c.val : Int) := by decide
theorem colour_word {c : Int} (h0 : 1 ≤ c) (h1 : c ≤ 8) : ∃ w, colourW[c.toNat]?.getD [] = w ∧ 32 ∉ w ∧ 34 ∉ w ∧ 58 ∉ w ∧ 59 ∉ w ∧ idxW colourW w = c := by
  obtain ⟨a, b, d, e, f, -⟩ := colour_words ⟨c.toNat, by omega⟩
  simp only [List.getD_eq_getElem?_getD] at a b d e f
  exact ⟨_, rfl, a, b, d, e, by rw [f]; simp; omega⟩
theorem isL_free {l : List UInt8} (h : l.all (fun c => isL c.toNat) = true) : 34 ∉ l ∧ 58 ∉ l ∧ 59 ∉ l := by
  rw [List.all_eq_true] at h
  refine ⟨fun e => ?_, fun e => ?_, fun e => ?_⟩ <;> · have := h _ e; revert this; decide
theorem itoa_word {n : Int} (h0 : 0 ≤ n) (h1 : n ≤ 200) : ∃ w, itoa n = w ∧ 32 ∉ w ∧ 34 ∉ w ∧ 58 ∉ w ∧ 59 ∉ w ∧ w ≠ [97, 116] ∧ numP w = n := by
  obtain ⟨a, b, c, d, e⟩ := itoa_free h0 h1
  exact ⟨_, rfl, a, b, c, d, e, numP_itoa h0 h1⟩
theorem readWs_simple {k c : Int} {kw cw : List UInt8} {text : List UInt8} {r : List (List UInt8)} (h1 : idxW kindW kw = k) (h2 : idxW colourW cw = c) : readWs text (kw :: cw :: r) = readNs k c text r := by
  unfold readWs
  rw [if_neg (by simp)]
  simp [h1, h2]
theorem split_words (x : List UInt8) (ws : List (List UInt8)) (h : ∀ w ∈ x :: ws, 32 ∉ w) : split (join (x :: ws) [32]) [32] = x :: ws := split_join x ws h

set_option maxRecDepth 100000 in
theorem readIt_fmt {x : It} (h : itB x = true) : readIt (fmtIt x) = some x := by
  obtain ⟨k, c, l, w, a, b, t⟩ := x
  simp only [itB, Bool.and_eq_true, decide_eq_true_eq] at h
  obtain ⟨⟨⟨⟨⟨⟨hk, hc⟩, hl⟩, hw⟩, ha⟩, hb⟩, ht⟩ := h
  obtain ⟨cw, ec, c1, c2, c3, c4, c5⟩ := colour_word hc.1 hc.2
  have hk' : k = 1 ∨ k = 2 ∨ k = 3 ∨ k = 4 ∨ k = 5 ∨ k = 6 := by omega
  rcases hk' with rfl | rfl | rfl | rfl | rfl | rfl
  · simp [useB] at hl hw ha hb ht
    subst hl hw ha hb ht
    have e : fmtIt ⟨1, c, 0, 0, 0, 0, []⟩ = join [[102, 105, 101, 108, 100], cw] [32] := by simp [fmtIt, wordsW, headW, ec, kindW]
    rw [e, readIt, if_neg (by simp [join_cons, joinTail, hasPrefix]), split_words _ _ (by simp [c1]), readWs_simple (k := 1) (by decide) c5]
    simp [readNs]
  · simp [useB] at hl hw ha hb ht
    subst hl hw hb ht
    obtain ⟨aw, ea, a1, a2, a3, a4, a5, a6⟩ := itoa_word (by omega) ha.2
    have e : fmtIt ⟨2, c, 0, 0, a, 0, []⟩ = join [[114, 105, 109], cw, aw] [32] := by simp [fmtIt, wordsW, headW, ec, ea, kindW]
    rw [e, readIt, if_neg (by simp [join_cons, joinTail, hasPrefix]), split_words _ _ (by simp [c1, a1]), readWs_simple (k := 2) (by decide) c5]
    simp [readNs, a6]
  · simp [useB] at hl hw ha hb ht
    subst ht
    obtain ⟨aw, ea, a1, a2, a3, a4, a5, a6⟩ := itoa_word (by omega) ha.2
    obtain ⟨bw, eb, b1, b2, b3, b4, b5, b6⟩ := itoa_word (by omega) hb.2
    obtain ⟨lw, el, l1, l2, l3, l4, l5, l6⟩ := itoa_word hl.1 hl.2
    obtain ⟨ww, ew, w1, w2, w3, w4, w5, w6⟩ := itoa_word hw.1 hw.2
    have e : fmtIt ⟨3, c, l, w, a, b, []⟩ = join [[98, 111, 120], cw, aw, bw, [97, 116], lw, ww] [32] := by simp [fmtIt, wordsW, headW, atW, ec, ea, eb, el, ew, kindW]
    rw [e, readIt, if_neg (by simp [join_cons, joinTail, hasPrefix]), split_words _ _ (by simp [c1, a1, b1, l1, w1]), readWs_simple (k := 3) (by decide) c5]
    simp [readNs, a6, b6, l6, w6]
  · simp [useB] at hl hw ha hb ht
    subst hb ht
    obtain ⟨aw, ea, a1, a2, a3, a4, a5, a6⟩ := itoa_word (by omega) ha.2
    obtain ⟨lw, el, l1, l2, l3, l4, l5, l6⟩ := itoa_word hl.1 hl.2
    obtain ⟨ww, ew, w1, w2, w3, w4, w5, w6⟩ := itoa_word hw.1 hw.2
    have e : fmtIt ⟨4, c, l, w, a, 0, []⟩ = join [[100, 105, 115, 99], cw, aw, [97, 116], lw, ww] [32] := by simp [fmtIt, wordsW, headW, atW, ec, ea, el, ew, kindW]
    rw [e, readIt, if_neg (by simp [join_cons, joinTail, hasPrefix]), split_words _ _ (by simp [c1, a1, l1, w1]), readWs_simple (k := 4) (by decide) c5]
    simp [readNs, a6, l6, w6]
  · simp [useB] at hl hw ha hb ht
    subst hl hw hb ht
    obtain ⟨aw, ea, a1, a2, a3, a4, a5, a6⟩ := itoa_word (by omega) ha.2
    have e : fmtIt ⟨5, c, 0, 0, a, 0, []⟩ = join [[115, 108, 97, 115, 104], cw, aw] [32] := by simp [fmtIt, wordsW, headW, ec, ea, kindW]
    rw [e, readIt, if_neg (by simp [join_cons, joinTail, hasPrefix]), split_words _ _ (by simp [c1, a1]), readWs_simple (k := 5) (by decide) c5]
    simp [readNs, a6]
  · simp [useB] at hl hw ha hb ht
    subst hb
    simp only [spellB, Bool.and_eq_true] at ht
    obtain ⟨t1, t2, t3⟩ := isL_free ht.2
    obtain ⟨aw, ea, a1, a2, a3, a4, a5, a6⟩ := itoa_word (by omega) ha.2
    obtain ⟨lw, el, l1, l2, l3, l4, l5, l6⟩ := itoa_word hl.1 hl.2
    obtain ⟨ww, ew, w1, w2, w3, w4, w5, w6⟩ := itoa_word hw.1 hw.2
    have e : fmtIt ⟨6, c, l, w, a, 0, t⟩ = join [[116, 101, 120, 116], cw, aw] [32] ++ ([32, 34] ++ (t ++ ([34] ++ ([32] ++ join [[97, 116], lw, ww] [32])))) := by simp [fmtIt, headW, atW, ec, ea, el, ew, kindW]
    rw [e, readIt, if_pos (by simp [join_cons, joinTail, hasPrefix]), cut_free (d := 34) 1 rfl (by simp [join_cons, joinTail, c2, a2])]
    dsimp only
    rw [cut_free (d := 34) 0 rfl (by simpa using t1)]
    dsimp only
    have e2 : join [[116, 101, 120, 116], cw, aw] [32] ++ ([32] ++ join [[97, 116], lw, ww] [32]) = join [[116, 101, 120, 116], cw, aw, [97, 116], lw, ww] [32] := by simp [join_cons, joinTail]
    rw [e2, if_pos (by simp), split_words _ _ (by simp [c1, a1, l1, w1]), readWs_simple (k := 6) (by decide) c5]
    simp [readNs, a6, l6, w6]
/-- No item's text has a semicolon. -/
theorem fmtIt_free {x : It} (h : itB x = true) : 59 ∉ fmtIt x := by
  obtain ⟨k, c, l, w, a, b, t⟩ := x
  simp only [itB, Bool.and_eq_true, decide_eq_true_eq] at h
  obtain ⟨⟨⟨⟨⟨⟨hk, hc⟩, hl⟩, hw⟩, ha⟩, hb⟩, ht⟩ := h
  obtain ⟨cw, ec, c1, c2, c3, c4, c5⟩ := colour_word hc.1 hc.2
  have hk' : k = 1 ∨ k = 2 ∨ k = 3 ∨ k = 4 ∨ k = 5 ∨ k = 6 := by omega
  rcases hk' with rfl | rfl | rfl | rfl | rfl | rfl
  all_goals simp [useB] at hl hw ha hb ht
  · simp [fmtIt, wordsW, headW, ec, kindW, join_cons, joinTail, c4]
  · obtain ⟨aw, ea, a1, a2, a3, a4, a5, a6⟩ := itoa_word (by omega) ha.2
    simp [fmtIt, wordsW, headW, ec, ea, kindW, join_cons, joinTail, c4, a4]
  · obtain ⟨aw, ea, a1, a2, a3, a4, a5, a6⟩ := itoa_word (by omega) ha.2
    obtain ⟨bw, eb, b1, b2, b3, b4, b5, b6⟩ := itoa_word (by omega) hb.2
    obtain ⟨lw, el, l1, l2, l3, l4, l5, l6⟩ := itoa_word hl.1 hl.2
    obtain ⟨ww, ew, w1, w2, w3, w4, w5, w6⟩ := itoa_word hw.1 hw.2
    simp [fmtIt, wordsW, headW, atW, ec, ea, eb, el, ew, kindW, join_cons, joinTail, c4, a4, b4, l4, w4]
  · obtain ⟨aw, ea, a1, a2, a3, a4, a5, a6⟩ := itoa_word (by omega) ha.2
    obtain ⟨lw, el, l1, l2, l3, l4, l5, l6⟩ := itoa_word hl.1 hl.2
    obtain ⟨ww, ew, w1, w2, w3, w4, w5, w6⟩ := itoa_word hw.1 hw.2
    simp [fmtIt, wordsW, headW, atW, ec, ea, el, ew, kindW, join_cons, joinTail, c4, a4, l4, w4]
  · obtain ⟨aw, ea, a1, a2, a3, a4, a5, a6⟩ := itoa_word (by omega) ha.2
    simp [fmtIt, wordsW, headW, ec, ea, kindW, join_cons, joinTail, c4, a4]
  · simp only [spellB, Bool.and_eq_true] at ht
    obtain ⟨t1, t2, t3⟩ := isL_free ht.2
    obtain ⟨aw, ea, a1, a2, a3, a4, a5, a6⟩ := itoa_word (by omega) ha.2
    obtain ⟨lw, el, l1, l2, l3, l4, l5, l6⟩ := itoa_word hl.1 hl.2
    obtain ⟨ww, ew, w1, w2, w3, w4, w5, w6⟩ := itoa_word hw.1 hw.2
    simp [fmtIt, headW, atW, ec, ea, el, ew, kindW, join_cons, joinTail, c4, a4, l4, w4, t3]
theorem readAll_fmt {l : List It} (h : l.all itB = true) : readAll (l.map fmtIt) = some l := by
  induction l with
  | nil => rfl
  | cons x l ih =>
    simp only [List.all_cons, Bool.and_eq_true] at h
    simp [readAll, readIt_fmt h.1, ih h.2]
theorem headF_words {f : Fc} (h : fcB f = true) : (∀ w ∈ headF f, 32 ∉ w ∧ 58 ∉ w) ∧ idxW shapeW ((headF f).getD 0 []) = f.shape ∧ (if 1 < (headF f).length then numP ((headF f).getD 1 []) else 0) = f.size ∧ (if 2 < (headF f).length then numP ((headF f).getD 2 []) else 0) = f.height := by
  obtain ⟨s, z, g, l⟩ := f
  simp only [fcB, Bool.and_eq_true, decide_eq_true_eq] at h
  obtain ⟨⟨⟨⟨hs, hz⟩, -⟩, hg⟩, -⟩ := h
  obtain ⟨s1, s2, s3⟩ := shape_words ⟨s.toNat, by omega⟩
  obtain ⟨zw, ez, z1, z2, z3, z4, z5, z6⟩ := itoa_word (show (0 : Int) ≤ z by omega) hz.2
  have s3' : idxW shapeW (shapeW.getD s.toNat []) = s := by rw [s3]; simp; omega
  by_cases e : s = 2
  · rw [if_pos e] at hg
    simp only [decide_eq_true_eq] at hg
    obtain ⟨gw, eg, g1, g2, g3, g4, g5, g6⟩ := itoa_word (show (0 : Int) ≤ g by omega) hg.2
    refine ⟨?_, s3', ?_, ?_⟩
    · intro w hw
      simp only [headF, if_pos e, ez, eg, List.cons_append, List.nil_append, List.mem_cons, List.not_mem_nil, or_false] at hw
      rcases hw with rfl | rfl | rfl
      · exact ⟨s1, s2⟩
      · exact ⟨z1, z3⟩
      · exact ⟨g1, g3⟩
    · simp [headF, e, ez, z6]
    · simp [headF, e, eg, g6]
  · rw [if_neg e] at hg
    simp only [decide_eq_true_eq] at hg
    refine ⟨?_, s3', ?_, ?_⟩
    · intro w hw
      simp only [headF, if_neg e, ez, List.cons_append, List.nil_append, List.append_nil, List.mem_cons, List.not_mem_nil, or_false] at hw
      rcases hw with rfl | rfl
      · exact ⟨s1, s2⟩
      · exact ⟨z1, z3⟩
    · simp [headF, e, ez, z6]
    · simp [headF, e, hg]
theorem join_free {d : UInt8} (x : List UInt8) (ws : List (List UInt8)) (h : ∀ w ∈ x :: ws, d ∉ w) (hd : d ≠ 32) : d ∉ join (x :: ws) [32] := by
  rw [join_cons]
  simp only [joinTail, List.mem_append, List.mem_flatten, List.mem_map]
  rintro (h1 | ⟨_, ⟨w, hw, rfl⟩, h2⟩)
  · exact h x (by simp) h1
  · simp only [List.mem_append, List.mem_cons, List.not_mem_nil, or_false] at h2
    rcases h2 with h2 | h2
    · exact hd h2
    · exact h w (by simp [hw]) h2
theorem readF_fmt {f : Fc} (h : fcB f = true) : readF (fmtF f) = some f := by
  obtain ⟨hw, h0, h1, h2⟩ := headF_words h
  have hl : f.items.all itB = true := by simp only [fcB, Bool.and_eq_true] at h; exact h.2
  obtain ⟨x, ws, hx⟩ : ∃ x ws, headF f = x :: ws := ⟨_, _, rfl⟩
  have hs : split (join (headF f) [32]) [32] = headF f := by rw [hx]; exact split_words _ _ (fun w hw' => (hw w (by rw [hx]; exact hw')).1)
  have h58 : 58 ∉ join (headF f) [32] := by rw [hx]; exact join_free _ _ (fun w hw' => (hw w (by rw [hx]; exact hw')).2) (by decide)
  unfold readF fmtF
  by_cases e : f.items = []
  · rw [if_pos e, cut_no (d := 58) (by simp) h58]
    dsimp only
    rw [hs, h0, h1, h2]
    simp [← e]
  · rw [if_neg e, cut_free (d := 58) 0 rfl (by simpa using h58)]
    dsimp only
    rw [hs, h0, h1, h2]
    obtain ⟨y, ys, hy⟩ : ∃ y ys, f.items = y :: ys := List.exists_cons_of_ne_nil e
    have : split (join (f.items.map fmtIt) [59, 32]) [59, 32] = f.items.map fmtIt := by
      rw [hy, List.map_cons]
      refine split_join _ _ ?_
      intro w hw'
      rw [← List.map_cons, List.mem_map] at hw'
      obtain ⟨z, hz, rfl⟩ := hw'
      exact fmtIt_free (List.all_eq_true.1 hl z (by rw [hy]; exact hz))
    rw [this, readAll_fmt hl]
    simp
/-- THE PROGRAM'S PARSE: the face of a text, if the text is a valid face's. -/
def parseP (s : List UInt8) : Option Fc := match readF s with
  | some f => if fcB f && decide (fmtF f = s) then some f else none
  | none => none
theorem parseP_some {s : List UInt8} {f : Fc} : parseP s = some f ↔ fcB f = true ∧ fmtF f = s := by
  unfold parseP
  constructor
  · intro h
    split at h
    · split at h
      · rename_i h2
        injection h with h
        subst h
        simpa using h2
      · cases h
    · cases h
  · rintro ⟨h1, rfl⟩
    rw [readF_fmt h1]
    simp [h1]
end

section
/-- A type. -/
structure Ty where
  code : Int
  grade : Int
  frm : Int
  to : Int
  text : List UInt8
/-- A step of a price list. -/
structure Stp where
  count : Int
  mille : Int
/-- A price list. -/
structure Prc where
  dot : Int
  scr : Int
  steps : List Stp

def tyR (t : Ty) : Bool := decide (1 ≤ t.code ∧ t.code ≤ 1000000) && decide (1 ≤ t.grade ∧ t.grade ≤ 3) && decide (0 ≤ t.frm ∧ t.frm ≤ 100000) && decide (t.frm + 1 ≤ t.to ∧ t.to ≤ 100001)
def gndL : List Int → Int
  | [] => 0
  | x :: _ => if x = 8 then 0 else x
/-- The colour of the sheet. -/
def gndF (f : Fc) : Int := gndL (screensK f 8)
/-- The face of a type, and whether it has a colour. -/
def faceE (t : Ty) : Fc × Bool := match parseP t.text with
  | none => (⟨0, 0, 0, []⟩, false)
  | some f => (f, decide (gndF f ≠ 0))
def tyB (t : Ty) : Bool := tyR t && (faceE t).2
theorem faceE_yes {t : Ty} (h : (faceE t).2 = true) : parseP t.text = some (faceE t).1 ∧ gndF (faceE t).1 ≠ 0 ∧ fcB (faceE t).1 = true := by
  unfold faceE at h ⊢
  cases hp : parseP t.text with
  | none => rw [hp] at h; simp at h
  | some f =>
    rw [hp] at h
    simp at h
    exact ⟨rfl, h, (parseP_some.1 hp).1⟩

/-! ### Prices -/
def stepB (l : List Stp) (k : Nat) : Bool :=
  decide (1 ≤ (l.getD k ⟨0, 0⟩).count ∧ (l.getD k ⟨0, 0⟩).count ≤ 10000) && decide (0 ≤ (l.getD k ⟨0, 0⟩).mille ∧ (l.getD k ⟨0, 0⟩).mille ≤ 1000) &&
    (decide (k = 0) || decide ((l.getD (k - 1) ⟨0, 0⟩).count < (l.getD k ⟨0, 0⟩).count) && decide ((l.getD (k - 1) ⟨0, 0⟩).mille < (l.getD k ⟨0, 0⟩).mille))
def prcB (p : Prc) : Bool := decide (0 ≤ p.dot ∧ p.dot ≤ 1000000) && decide (0 ≤ p.scr ∧ p.scr ≤ 1000000) && decide (p.steps.length ≤ 10) && (List.range p.steps.length).all (stepB p.steps)
theorem prcB_parts {p : Prc} (h : prcB p = true) : (0 ≤ p.dot ∧ p.dot ≤ 1000000) ∧ (0 ≤ p.scr ∧ p.scr ≤ 1000000) ∧ p.steps.length ≤ 10 ∧ ∀ k, k < p.steps.length → stepB p.steps k = true := by
  simp only [prcB, Bool.and_eq_true, decide_eq_true_eq, List.all_eq_true, List.mem_range] at h
  exact ⟨h.1.1.1, h.1.1.2, h.1.2, h.2⟩
theorem prcB_of {p : Prc} (h1 : 0 ≤ p.dot ∧ p.dot ≤ 1000000) (h2 : 0 ≤ p.scr ∧ p.scr ≤ 1000000) (h3 : p.steps.length ≤ 10) (h4 : ∀ k, k < p.steps.length → stepB p.steps k = true) : prcB p = true := by
  simp only [prcB, Bool.and_eq_true, decide_eq_true_eq, List.all_eq_true, List.mem_range]
  exact ⟨⟨⟨h1, h2⟩, h3⟩, h4⟩
theorem prcB_step {p : Prc} {k : Nat} (hk : k < p.steps.length) (h : stepB p.steps k = false) : prcB p = false := by
  cases hb : prcB p with
  | false => rfl
  | true => rw [(prcB_parts hb).2.2.2 k hk] at h; cases h
/-- What is taken off, by the first k steps. -/
def offK (l : List Stp) (n : Int) : Nat → Int
  | 0 => 0
  | k + 1 => if (l.getD k ⟨0, 0⟩).count ≤ n then (l.getD k ⟨0, 0⟩).mille else offK l n k
def offP (p : Prc) (n : Int) : Int := offK p.steps n p.steps.length
theorem offK_bounds {p : Prc} (h : prcB p = true) (n : Int) : ∀ k, k ≤ p.steps.length → 0 ≤ offK p.steps n k ∧ offK p.steps n k ≤ 1000
  | 0, _ => by unfold offK; omega
  | k + 1, hk => by
    have ih := offK_bounds h n k (by omega)
    have hs := (prcB_parts h).2.2.2 k (by omega)
    simp only [stepB, Bool.and_eq_true, decide_eq_true_eq] at hs
    unfold offK
    split
    · exact hs.1.2
    · exact ih
theorem offK_same (l : List Stp) {a b : Int} (hab : a ≤ b) (h : ∀ k, k < l.length → ¬ (a < (l.getD k ⟨0, 0⟩).count ∧ (l.getD k ⟨0, 0⟩).count ≤ b)) : ∀ k, k ≤ l.length → offK l a k = offK l b k
  | 0, _ => rfl
  | k + 1, hk => by
    have ih := offK_same l hab h k (by omega)
    have hs := h k (by omega)
    unfold offK
    by_cases h1 : (l.getD k ⟨0, 0⟩).count ≤ a
    · rw [if_pos h1, if_pos (by omega)]
    · rw [if_neg h1, if_neg (by omega), ih]

/-- The dots of the colours 1 to k. -/
def dotsK (f : Fc) : Nat → Int
  | 0 => 0
  | k + 1 => dotsK f k + areaP f ((k + 1 : Nat) : Int)
theorem area_bounds {f : Fc} (h : fcB f = true) (v : Int) : 0 ≤ areaP f v ∧ areaP f v ≤ 40000 := by
  obtain ⟨s0, s1⟩ := size_bounds h
  obtain ⟨h0, h1⟩ := heiF_bounds h
  obtain ⟨a, b⟩ := areaJ_bounds f v (heiF f).toNat
  refine ⟨a, Int.le_trans b ?_⟩
  have e : ((heiF f).toNat : Int) = heiF f := by omega
  have e2 : (f.size.toNat : Int) = f.size := by omega
  rw [e, e2]
  exact Int.mul_le_mul (c := 200) (d := 200) h1 s1 (by omega) (by omega)
theorem dotsK_bounds {f : Fc} (h : fcB f = true) : ∀ k, 0 ≤ dotsK f k ∧ dotsK f k ≤ 40000 * k
  | 0 => by unfold dotsK; omega
  | k + 1 => by
    have ih := dotsK_bounds h k
    have ha := area_bounds h ((k + 1 : Nat) : Int)
    unfold dotsK
    omega
theorem dotsK_all {f : Fc} (h : fcB f = true) : dotsK f 9 = f.size * heiF f - areaP f 0 := by
  have h1 := areaJ_all h (heiF f).toNat
  obtain ⟨h0, -⟩ := heiF_bounds h
  have e : ((heiF f).toNat : Int) = heiF f := by omega
  rw [e, Int.mul_comm] at h1
  simp only [dotsK, areaP]
  simp only [show ((0 + 1 : Nat) : Int) = 1 from rfl, show ((1 + 1 : Nat) : Int) = 2 from rfl, show ((2 + 1 : Nat) : Int) = 3 from rfl, show ((3 + 1 : Nat) : Int) = 4 from rfl, show ((4 + 1 : Nat) : Int) = 5 from rfl, show ((5 + 1 : Nat) : Int) = 6 from rfl, show ((6 + 1 : Nat) : Int) = 7 from rfl, show ((7 + 1 : Nat) : Int) = 8 from rfl, show ((8 + 1 : Nat) : Int) = 9 from rfl]
  omega
theorem screensK_le (f : Fc) : ∀ k, (screensK f k).length ≤ k
  | 0 => Nat.le_refl _
  | k + 1 => by
    have := screensK_le f k
    unfold screensK
    split
    · simp; omega
    · omega
/-- What one face costs. -/
def oneP (p : Prc) (f : Fc) : Int := dotsK f 9 * p.dot + (screensK f 8).length * p.scr
theorem dots9_bounds {f : Fc} (h : fcB f = true) : 0 ≤ dotsK f 9 ∧ dotsK f 9 ≤ 360000 := by
  have := dotsK_bounds h 9
  omega
theorem one_parts {p : Prc} {f : Fc} (hp : prcB p = true) (hf : fcB f = true) : (0 ≤ dotsK f 9 * p.dot ∧ dotsK f 9 * p.dot ≤ 360000000000) ∧ (0 ≤ ((screensK f 8).length : Int) * p.scr ∧ ((screensK f 8).length : Int) * p.scr ≤ 8000000) := by
  obtain ⟨⟨a0, a1⟩, ⟨b0, b1⟩, -, -⟩ := prcB_parts hp
  obtain ⟨d0, d1⟩ := dots9_bounds hf
  have hs := screensK_le f 8
  refine ⟨⟨Int.mul_nonneg d0 a0, ?_⟩, Int.mul_nonneg (by omega) b0, ?_⟩
  · exact Int.mul_le_mul (c := 360000) (d := 1000000) d1 a1 a0 (by omega)
  · exact Int.mul_le_mul (c := 8) (d := 1000000) (by omega) b1 b0 (by omega)
theorem one_bounds {p : Prc} {f : Fc} (hp : prcB p = true) (hf : fcB f = true) : 0 ≤ oneP p f ∧ oneP p f ≤ 360008000000 := by
  have := one_parts hp hf
  unfold oneP
  omega
def quoP (p : Prc) (f : Fc) (n : Int) : Int := n * oneP p f * (1000 - offP p n) / 1000
theorem quo_parts {p : Prc} {f : Fc} {n : Int} (hp : prcB p = true) (hf : fcB f = true) (hn : 1 ≤ n ∧ n ≤ 10000) : (0 ≤ n * oneP p f ∧ n * oneP p f ≤ 3600080000000000) ∧ (0 ≤ n * oneP p f * (1000 - offP p n) ∧ n * oneP p f * (1000 - offP p n) ≤ 3600080000000000000) := by
  obtain ⟨o0, o1⟩ := one_bounds hp hf
  obtain ⟨f0, f1⟩ := offK_bounds hp n p.steps.length (Nat.le_refl _)
  have m0 : 0 ≤ n * oneP p f := Int.mul_nonneg (by omega) o0
  have m1 : n * oneP p f ≤ 10000 * 360008000000 := Int.mul_le_mul hn.2 o1 o0 (by omega)
  refine ⟨⟨m0, by omega⟩, Int.mul_nonneg m0 (by unfold offP; omega), ?_⟩
  exact Int.mul_le_mul (c := 3600080000000000) (d := 1000) (by omega) (by unfold offP; omega) (by unfold offP; omega) (by omega)
theorem quo_bounds {p : Prc} {f : Fc} {n : Int} (hp : prcB p = true) (hf : fcB f = true) (hn : 1 ≤ n ∧ n ≤ 10000) : 0 ≤ quoP p f n ∧ quoP p f n ≤ 3600080000000000 := by
  have := quo_parts hp hf hn
  unfold quoP
  omega
/-- A greater quantity never costs less, as long as the step stays the same. -/
theorem quo_more {p : Prc} {f : Fc} {a b : Int} (hp : prcB p = true) (hf : fcB f = true) (ha : 1 ≤ a) (hab : a ≤ b) (h : ∀ k, k < p.steps.length → ¬ (a < (p.steps.getD k ⟨0, 0⟩).count ∧ (p.steps.getD k ⟨0, 0⟩).count ≤ b)) : quoP p f a ≤ quoP p f b := by
  have e : offP p a = offP p b := offK_same p.steps hab h _ (Nat.le_refl _)
  obtain ⟨o0, -⟩ := one_bounds hp hf
  obtain ⟨f0, f1⟩ := offK_bounds hp b p.steps.length (Nat.le_refl _)
  have f1' : offP p b ≤ 1000 := f1
  unfold quoP
  rw [e]
  refine Int.ediv_le_ediv (by omega) (Int.mul_le_mul_of_nonneg_right (Int.mul_le_mul_of_nonneg_right hab o0) (by omega))

/-! ### Invoices -/
def facP (t : Ty) : Fc := (faceE t).1
def invE (p : Prc) (ts : List Ty) (ns : List Int) : Int :=
  if prcB p = true then if ts.all tyB = true then if ts.length = ns.length ∧ ts.length ≤ 100 then if ns.all (fun n => decide (1 ≤ n ∧ n ≤ 10000)) = true then 0 else 2 else 2 else 101 else 103
def invL (p : Prc) (ts : List Ty) (ns : List Int) : Nat → List Int
  | 0 => []
  | k + 1 => invL p ts ns k ++ [quoP p (facP (ts.getD k ⟨0, 0, 0, 0, []⟩)) (ns.getD k 0)]
def sumL : List Int → Int
  | [] => 0
  | x :: l => x + sumL l
theorem sumL_app (a : List Int) (x : Int) : sumL (a ++ [x]) = sumL a + x := by
  induction a with
  | nil => simp [sumL]
  | cons y a ih => simp only [List.cons_append, sumL, ih]; omega
theorem invL_len (p : Prc) (ts : List Ty) (ns : List Int) : ∀ k, (invL p ts ns k).length = k
  | 0 => rfl
  | k + 1 => by simp [invL, invL_len p ts ns k]

/-! ### The maker's warranty -/
def warE (price age full last : Int) : Int := if (0 ≤ price ∧ price ≤ 1000000000000) ∧ (0 ≤ age ∧ age ≤ 100000) ∧ 0 ≤ full ∧ full < last ∧ last ≤ 100000 then 0 else 2
def warV (price age full last : Int) : Int := if age < full then price else if last ≤ age then 0 else price * (last - age) / (last - full)
theorem war_later {price age full last : Int} (h : warE price age full last = 0) (ha : age ≠ 100000) : warE price (age + 1) full last = 0 ∧ warV price (age + 1) full last ≤ warV price age full last := by
  unfold warE at h ⊢
  by_cases hc : (0 ≤ price ∧ price ≤ 1000000000000) ∧ (0 ≤ age ∧ age ≤ 100000) ∧ 0 ≤ full ∧ full < last ∧ last ≤ 100000
  · refine ⟨if_pos (by omega), ?_⟩
    unfold warV
    by_cases h1 : age + 1 < full
    · rw [if_pos h1, if_pos (by omega)]
      exact Int.le_refl _
    · rw [if_neg h1]
      have hq : ∀ d, 0 ≤ d → d ≤ last - full → price * d / (last - full) ≤ price := fun d hd hd2 => by
        apply Int.ediv_le_of_le_mul (by omega)
        exact Int.mul_le_mul_of_nonneg_left hd2 (by omega)
      have hq0 : ∀ d, 0 ≤ d → 0 ≤ price * d / (last - full) := fun d hd => Int.ediv_nonneg (Int.mul_nonneg (by omega) hd) (by omega)
      by_cases h2 : last ≤ age + 1
      · rw [if_pos h2]
        by_cases h3 : age < full
        · rw [if_pos h3]; omega
        · rw [if_neg h3]
          by_cases h4 : last ≤ age
          · rw [if_pos h4]; exact Int.le_refl _
          · rw [if_neg h4]; exact hq0 _ (by omega)
      · rw [if_neg h2]
        by_cases h3 : age < full
        · rw [if_pos h3]; exact hq _ (by omega) (by omega)
        · rw [if_neg h3, if_neg (by omega)]
          exact Int.ediv_le_ediv (by omega) (Int.mul_le_mul_of_nonneg_left (by omega) (by omega))
  · rw [if_neg hc] at h
    omega
end

section
def lenB (l : List UInt8) (unit : Int) : Bool := decide (1 ≤ unit ∧ unit ≤ 200) && spellB l
def lenS (l : List UInt8) (unit : Int) : Int := (6 * (l.length : Int) - 1) * unit
theorem lenS_bounds {l : List UInt8} {unit : Int} (h : lenB l unit = true) : 1 ≤ unit ∧ unit ≤ 200 ∧ 1 ≤ l.length ∧ l.length ≤ 24 ∧ 5 ≤ lenS l unit ∧ lenS l unit ≤ 28600 := by
  simp only [lenB, spellB, Bool.and_eq_true, decide_eq_true_eq] at h
  obtain ⟨⟨a, b⟩, ⟨c, d⟩, -⟩ := h
  unfold lenS
  have h1 : 5 ≤ 6 * (l.length : Int) - 1 := by omega
  have h2 : 6 * (l.length : Int) - 1 ≤ 143 := by omega
  have h3 : 5 * 1 ≤ (6 * (l.length : Int) - 1) * unit := Int.mul_le_mul h1 a (by omega) (by omega)
  have h4 : (6 * (l.length : Int) - 1) * unit ≤ 143 * 200 := Int.mul_le_mul h2 b (by omega) (by omega)
  exact ⟨a, b, c, d, by omega, by omega⟩
/-- The longest of the first k lines. -/
def longK (ls : List (List UInt8)) (unit : Int) : Nat → Int
  | 0 => 0
  | k + 1 => max (longK ls unit k) (lenS (ls.getD k []) unit)
def highP (n : Nat) (unit : Int) : Int := n * 7 * unit + (n - 1) * 4 * unit + 6 * unit
def fives (n : Int) : Int := (n + 4) / 5 * 5
def sizeP (ls : List (List UInt8)) (unit : Int) : Int := fives (longK ls unit ls.length + 6 * unit)
def heightP (n : Nat) (unit : Int) : Int := fives (highP n unit)
def lowP (n : Nat) (unit : Int) (k : Nat) : Int := heightP n unit - 3 * unit - 7 * unit - k * 11 * unit - (heightP n unit - highP n unit) / 2
/-- The items of the first k lines. -/
def linesP (ls : List (List UInt8)) (unit ink : Int) : Nat → List It
  | 0 => []
  | k + 1 => linesP ls unit ink k ++ [⟨6, ink, (sizeP ls unit - lenS (ls.getD k []) unit) / 2, lowP ls.length unit k, unit, 0, ls.getD k []⟩]
def argsP (ls : List (List UInt8)) (unit ground ink : Int) : Bool :=
  decide (1 ≤ ls.length ∧ ls.length ≤ 8) && decide (1 ≤ unit ∧ unit ≤ 200) && decide (1 ≤ ground ∧ ground ≤ 8) && decide (1 ≤ ink ∧ ink ≤ 8) && decide (ground ≠ ink)
def panelE (ls : List (List UInt8)) (unit ground ink : Int) : Int :=
  if argsP ls unit ground ink && ls.all (fun l => lenB l unit) then if 200 < sizeP ls unit ∨ 200 < heightP ls.length unit then 2 else 0 else 1
def panelP (ls : List (List UInt8)) (unit ground ink : Int) : Fc :=
  ⟨2, sizeP ls unit, heightP ls.length unit, [⟨1, ground, 0, 0, 0, 0, []⟩, ⟨2, ink, 0, 0, unit, 0, []⟩] ++ linesP ls unit ink ls.length⟩

/-! ### Seams -/
/-- A seam at the column c cuts a letter of an item. -/
def cutIt (x : It) (c : Int) : Bool :=
  decide (x.kind = 6) && (List.range x.text.length).any fun k => decide (x.text.getD k 0 ≠ 32) && decide (x.left + 6 * x.a * k < c ∧ c < x.left + 6 * x.a * k + 5 * x.a)
def cutF (f : Fc) (c : Int) : Bool := f.items.any fun x => cutIt x c
/-- The last column of at + 1 .. at + k at which no letter is cut, or at. -/
def dnS (f : Fc) (a : Int) : Nat → Int
  | 0 => a
  | k + 1 => if cutF f (a + (k + 1 : Nat)) then dnS f a k else a + (k + 1 : Nat)
theorem dnS_bounds (f : Fc) (a : Int) (k : Nat) : a ≤ dnS f a k ∧ dnS f a k ≤ a + k := by
  induction k with
  | zero => simp [dnS]
  | succ k ih => unfold dnS; split <;> omega
/-- The seams from the column a on; none: there is no way. -/
def seamsN (f : Fc) (width : Nat) : Nat → Int → Option (List Int)
  | 0, _ => some []
  | m + 1, a => if f.size - a ≤ width then some [] else if dnS f a width = a then none else (seamsN f width m (dnS f a width)).map (dnS f a width :: ·)
def seamsP (f : Fc) (width : Nat) : Option (List Int) := seamsN f width 200 0
end

section
/-- The digits of the rows of 0 to 9 and A to Z. -/
def hexL : List UInt8 := [48, 69, 49, 49, 49, 51, 49, 53, 49, 57, 49, 49, 48, 69, 48, 52, 48, 67, 48, 52, 48, 52, 48, 52, 48, 52, 48, 69, 48, 69, 49, 49, 48, 49, 48, 50, 48, 52, 48, 56, 49, 70, 49, 70, 48, 50, 48, 52, 48, 50, 48, 49, 49, 49, 48, 69, 48, 50, 48, 54, 48, 65, 49, 50, 49, 70, 48, 50, 48, 50, 49, 70, 49, 48, 49, 69, 48, 49, 48, 49, 49, 49, 48, 69, 48, 54, 48, 56, 49, 48, 49, 69, 49, 49, 49, 49, 48, 69, 49, 70, 48, 49, 48, 50, 48, 52, 48, 56, 48, 56, 48, 56, 48, 69, 49, 49, 49, 49, 48, 69, 49, 49, 49, 49, 48, 69, 48, 69, 49, 49, 49, 49, 48, 70, 48, 49, 48, 50, 48, 67, 48, 69, 49, 49, 49, 49, 49, 49, 49, 70, 49, 49, 49, 49, 49, 69, 49, 49, 49, 49, 49, 69, 49, 49, 49, 49, 49, 69, 48, 69, 49, 49, 49, 48, 49, 48, 49, 48, 49, 49, 48, 69, 49, 67, 49, 50, 49, 49, 49, 49, 49, 49, 49, 50, 49, 67, 49, 70, 49, 48, 49, 48, 49, 69, 49, 48, 49, 48, 49, 70, 49, 70, 49, 48, 49, 48, 49, 69, 49, 48, 49, 48, 49, 48, 48, 69, 49, 49, 49, 48, 49, 55, 49, 49, 49, 49, 48, 70, 49, 49, 49, 49, 49, 49, 49, 70, 49, 49, 49, 49, 49, 49, 48, 69, 48, 52, 48, 52, 48, 52, 48, 52, 48, 52, 48, 69, 48, 55, 48, 50, 48, 50, 48, 50, 48, 50, 49, 50, 48, 67, 49, 49, 49, 50, 49, 52, 49, 56, 49, 52, 49, 50, 49, 49, 49, 48, 49, 48, 49, 48, 49, 48, 49, 48, 49, 48, 49, 70, 49, 49, 49, 66, 49, 53, 49, 53, 49, 49, 49, 49, 49, 49, 49, 49, 49, 49, 49, 57, 49, 53, 49, 51, 49, 49, 49, 49, 48, 69, 49, 49, 49, 49, 49, 49, 49, 49, 49, 49, 48, 69, 49, 69, 49, 49, 49, 49, 49, 69, 49, 48, 49, 48, 49, 48, 48, 69, 49, 49, 49, 49, 49, 49, 49, 53, 49, 50, 48, 68, 49, 69, 49, 49, 49, 49, 49, 69, 49, 52, 49, 50, 49, 49, 48, 70, 49, 48, 49, 48, 48, 69, 48, 49, 48, 49, 49, 69, 49, 70, 48, 52, 48, 52, 48, 52, 48, 52, 48, 52, 48, 52, 49, 49, 49, 49, 49, 49, 49, 49, 49, 49, 49, 49, 48, 69, 49, 49, 49, 49, 49, 49, 49, 49, 49, 49, 48, 65, 48, 52, 49, 49, 49, 49, 49, 49, 49, 53, 49, 53, 49, 53, 48, 65, 49, 49, 49, 49, 48, 65, 48, 52, 48, 65, 49, 49, 49, 49, 49, 49, 49, 49, 49, 49, 48, 65, 48, 52, 48, 52, 48, 52, 49, 70, 48, 49, 48, 50, 48, 52, 48, 56, 49, 48, 49, 70]
def digH (c : Int) : Int := if c ≤ 57 then c - 48 else c - 65 + 10
/-- The row i of the letter n. -/
def rowH (n i : Nat) : Int := 16 * digH ((hexL.getD (14 * n + 2 * i) 0).toNat : Int) + digH ((hexL.getD (14 * n + 2 * i + 1) 0).toNat : Int)
set_option maxRecDepth 100000 in
theorem rowH_tab : ∀ n : Fin 36, (List.range 7).map (rowH n.val) = tabL.getD n.val [0, 0, 0, 0, 0, 0, 0] := by decide +kernel
/-- The number of a letter that is no space. -/
def numH (c : Int) : Nat := if c ≤ 57 then (c - 48).toNat else (c - 55).toNat
theorem rowH_rows {c : Int} (h : isL c = true) (h32 : c ≠ 32) : numH c < 36 ∧ (List.range 7).map (rowH (numH c)) = rowsL c := by
  simp only [isL, decide_eq_true_eq] at h
  have h' : 48 ≤ c ∧ c ≤ 57 ∨ 65 ≤ c ∧ c ≤ 90 := by omega
  unfold rowsL numH
  rcases h' with h' | h'
  · rw [if_pos h'.2, if_pos h']
    exact ⟨by omega, rowH_tab ⟨(c - 48).toNat, by omega⟩⟩
  · rw [if_neg (by omega), if_neg (by omega), if_pos h']
    exact ⟨by omega, rowH_tab ⟨(c - 55).toNat, by omega⟩⟩
end

section
open Go.Lib

structure Rdr where
  s : List UInt8
  bad : Bool
def isLow (c : UInt8) : Bool := decide (97 ≤ c.toNat ∧ c.toNat ≤ 122)
def isDig (c : UInt8) : Bool := decide (48 ≤ c.toNat ∧ c.toNat ≤ 57)
def skipR (t : List UInt8) (r : Rdr) : Rdr := if t.isPrefixOf r.s then ⟨r.s.drop t.length, r.bad⟩ else ⟨r.s, true⟩
def wordR (r : Rdr) : List UInt8 × Rdr := (r.s.takeWhile isLow, ⟨r.s.drop (r.s.takeWhile isLow).length, r.bad⟩)
def digsR (s : List UInt8) : List UInt8 := (s.take 6).takeWhile isDig
def valR (l : List UInt8) : Int := l.foldl (fun n c => 10 * n + ((c.toNat : Int) - 48)) 0
def numR (r : Rdr) : Int × Rdr := (valR (digsR (skipR [32] r).s), ⟨(skipR [32] r).s.drop (digsR (skipR [32] r).s).length, (skipR [32] r).bad || (digsR (skipR [32] r).s).isEmpty⟩)
def notQ (c : UInt8) : Bool := decide (c ≠ 34)
def textR (r : Rdr) : List UInt8 × Rdr := ((skipR [32, 34] r).s.takeWhile notQ, skipR [34] ⟨(skipR [32, 34] r).s.drop ((skipR [32, 34] r).s.takeWhile notQ).length, (skipR [32, 34] r).bad⟩)
def placeR (r : Rdr) : Int × Int × Rdr :=
  let p := numR (skipR [32, 97, 116] r)
  let q := numR p.2
  (p.1, q.1, q.2)
/-- The last of the words 1 to k that is x, or 0. -/
def hitW (ws : List (List UInt8)) (x : List UInt8) : Nat → Int
  | 0 => 0
  | k + 1 => if ws.getD (k + 1) [] = x then ((k + 1 : Nat) : Int) else hitW ws x k
def itemK (kind : List UInt8) (c : Int) (r : Rdr) : It × Rdr :=
  if kind = [102, 105, 101, 108, 100] then (⟨1, c, 0, 0, 0, 0, []⟩, r)
  else if kind = [114, 105, 109] then (⟨2, c, 0, 0, (numR r).1, 0, []⟩, (numR r).2)
  else if kind = [98, 111, 120] then
    let b := numR (numR r).2
    let p := placeR b.2
    (⟨3, c, p.1, p.2.1, (numR r).1, b.1, []⟩, p.2.2)
  else if kind = [100, 105, 115, 99] then
    let p := placeR (numR r).2
    (⟨4, c, p.1, p.2.1, (numR r).1, 0, []⟩, p.2.2)
  else if kind = [115, 108, 97, 115, 104] then (⟨5, c, 0, 0, (numR r).1, 0, []⟩, (numR r).2)
  else if kind = [116, 101, 120, 116] then
    let t := textR (numR r).2
    let p := placeR t.2
    (⟨6, c, p.1, p.2.1, (numR r).1, 0, t.1⟩, p.2.2)
  else (⟨0, c, 0, 0, 0, 0, []⟩, r)
def itemR (r : Rdr) : It × Rdr :=
  let k := wordR r
  let n := wordR (skipR [32] k.2)
  itemK k.1 (hitW colourW n.1 8) n.2
def sepR (i : Nat) : List UInt8 := if i = 0 then [58, 32] else [59, 32]
/-- The items that are read from the i-th on, m at most. -/
def itemsR : Nat → Nat → Rdr → List It × Rdr
  | 0, _, r => ([], r)
  | m + 1, i, r => if r.bad = false ∧ r.s ≠ [] then
      let p := itemR (skipR (sepR i) r)
      let q := itemsR m (i + 1) p.2
      (p.1 :: q.1, q.2)
    else ([], r)
def readRf (s : List UInt8) : Fc × Rdr :=
  let n := wordR ⟨s, false⟩
  let h := hitW shapeW n.1 6
  let z := numR n.2
  let g := if h = 2 then numR z.2 else (0, z.2)
  let l := itemsR 16 0 g.2
  (⟨h, z.1, g.1, l.1⟩, l.2)
def parseR (s : List UInt8) : Option Fc :=
  if (readRf s).2.bad = false ∧ (readRf s).2.s = [] ∧ fcB (readRf s).1 = true ∧ fmtF (readRf s).1 = s then some (readRf s).1 else none

/-! ### The laws -/
theorem skip_at (t r : List UInt8) (b : Bool) : skipR t ⟨t ++ r, b⟩ = ⟨r, b⟩ := by simp [skipR]
def endL (r : List UInt8) : Prop := ∀ c, r.head? = some c → isLow c = false
def endD (r : List UInt8) : Prop := ∀ c, r.head? = some c → isDig c = false
theorem takeWhile_at {f : UInt8 → Bool} {w r : List UInt8} (hw : w.all f = true) (hr : ∀ c, r.head? = some c → f c = false) : (w ++ r).takeWhile f = w := by
  induction w with
  | nil =>
    cases r with
    | nil => rfl
    | cons c r => simp [List.takeWhile, hr c rfl]
  | cons c w ih =>
    simp only [List.all_cons, Bool.and_eq_true] at hw
    simp [List.takeWhile, hw.1, ih hw.2]
theorem word_at {w r : List UInt8} {b : Bool} (hw : w.all isLow = true) (hr : endL r) : wordR ⟨w ++ r, b⟩ = (w, ⟨r, b⟩) := by
  simp only [wordR, takeWhile_at hw hr, List.drop_left]
set_option maxRecDepth 100000 in
theorem dg_dig : ∀ u : Fin 201, (dg u.val).all isDig = true ∧ valR (dg u.val) = (u.val : Int) ∧ (dg u.val).length ≤ 3 ∧ (dg u.val).isEmpty = false := by decide
theorem num_at {n : Int} {r : List UInt8} {b : Bool} (h0 : 0 ≤ n) (h1 : n ≤ 200) (hr : endD r) : numR ⟨[32] ++ (itoa n ++ r), b⟩ = (n, ⟨r, b⟩) := by
  obtain ⟨d1, d2, d3, d4⟩ := dg_dig ⟨n.toNat, by omega⟩
  rw [← itoa_dg h0 h1] at d1 d2 d3 d4
  have e : digsR (itoa n ++ r) = itoa n := by
    unfold digsR
    rw [List.take_append, List.take_of_length_le (by omega)]
    refine takeWhile_at d1 ?_
    intro c hc
    refine hr c ?_
    cases r with
    | nil => simp at hc
    | cons x r =>
      obtain ⟨m, hm⟩ : ∃ m, 6 - (itoa n).length = m + 1 := ⟨5 - (itoa n).length, by omega⟩
      rw [hm] at hc
      simpa using hc
  simp only [numR, skip_at, e, d2, d4, List.drop_left, Bool.or_false]
  simp
  omega
theorem text_at {t r : List UInt8} {b : Bool} (ht : 34 ∉ t) : textR ⟨[32, 34] ++ (t ++ ([34] ++ r)), b⟩ = (t, ⟨r, b⟩) := by
  have e : (t ++ ([34] ++ r)).takeWhile notQ = t := takeWhile_at (by rw [List.all_eq_true]; intro c hc; simp only [notQ, decide_eq_true_eq]; rintro rfl; exact ht hc) (by simp [notQ])
  simp only [textR, skip_at, e, List.drop_left]
theorem place_at {x y : Int} {r : List UInt8} {b : Bool} (x0 : 0 ≤ x) (x1 : x ≤ 200) (y0 : 0 ≤ y) (y1 : y ≤ 200) (hr : endD r) : placeR ⟨[32, 97, 116] ++ ([32] ++ (itoa x ++ ([32] ++ (itoa y ++ r)))), b⟩ = (x, y, ⟨r, b⟩) := by
  unfold placeR
  rw [skip_at, num_at x0 x1 (by simp [endD, isDig])]
  dsimp only
  rw [num_at y0 y1 hr]
set_option maxRecDepth 100000 in
theorem colour_low : ∀ c : Fin 9, (colourW.getD c.val []).all isLow = true ∧ hitW colourW (colourW.getD c.val []) 8 = (c.val : Int) := by decide
set_option maxRecDepth 100000 in
theorem shape_low : ∀ c : Fin 7, (shapeW.getD c.val []).all isLow = true ∧ hitW shapeW (shapeW.getD c.val []) 6 = (c.val : Int) := by decide
theorem colour_low' {c : Int} (h0 : 1 ≤ c) (h1 : c ≤ 8) : ∃ w, colourW[c.toNat]?.getD [] = w ∧ w.all isLow = true ∧ hitW colourW w 8 = c := by
  obtain ⟨a, b⟩ := colour_low ⟨c.toNat, by omega⟩
  simp only [List.getD_eq_getElem?_getD] at a b
  exact ⟨_, rfl, a, by rw [b]; simp; omega⟩
theorem item_at {kw cw r : List UInt8} {c : Int} (hk : kw.all isLow = true) (hc : cw.all isLow = true) (hh : hitW colourW cw 8 = c) (hr : endL r) : itemR ⟨kw ++ ([32] ++ (cw ++ r)), false⟩ = itemK kw c ⟨r, false⟩ := by
  unfold itemR
  rw [word_at hk (by simp [endL, isLow])]
  dsimp only
  rw [skip_at, word_at hc hr]
  dsimp only
  rw [hh]

set_option maxRecDepth 100000 in
theorem itemR_fmt {x : It} {r : List UInt8} (h : itB x = true) (hr : r = [] ∨ r.head? = some 59) : itemR ⟨fmtIt x ++ r, false⟩ = (x, ⟨r, false⟩) := by
  have hrL : endL r := by rcases hr with rfl | hr <;> intro c hc; simp at hc; rw [hr] at hc; injection hc with hc; subst hc; decide
  have hrD : endD r := by rcases hr with rfl | hr <;> intro c hc; simp at hc; rw [hr] at hc; injection hc with hc; subst hc; decide
  have spD : ∀ l, endD ([32] ++ l) := fun l c hc => by simp at hc; subst hc; decide
  have spL : ∀ l, endL ([32] ++ l) := fun l c hc => by simp at hc; subst hc; decide
  obtain ⟨k, c, l, w, a, b, t⟩ := x
  simp only [itB, Bool.and_eq_true, decide_eq_true_eq] at h
  obtain ⟨⟨⟨⟨⟨⟨hk, hc⟩, hl⟩, hw⟩, ha⟩, hb⟩, ht⟩ := h
  obtain ⟨cw, ec, c1, c2⟩ := colour_low' hc.1 hc.2
  have hk' : k = 1 ∨ k = 2 ∨ k = 3 ∨ k = 4 ∨ k = 5 ∨ k = 6 := by omega
  rcases hk' with rfl | rfl | rfl | rfl | rfl | rfl
  all_goals simp [useB] at hl hw ha hb ht
  · subst hl hw ha hb ht
    have e : fmtIt ⟨1, c, 0, 0, 0, 0, []⟩ ++ r = [102, 105, 101, 108, 100] ++ ([32] ++ (cw ++ r)) := by simp [fmtIt, wordsW, headW, ec, kindW, join_cons, joinTail]
    rw [e, item_at (by decide) c1 c2 hrL]
    rfl
  · subst hl hw hb ht
    have e : fmtIt ⟨2, c, 0, 0, a, 0, []⟩ ++ r = [114, 105, 109] ++ ([32] ++ (cw ++ ([32] ++ (itoa a ++ r)))) := by simp [fmtIt, wordsW, headW, ec, kindW, join_cons, joinTail]
    rw [e, item_at (by decide) c1 c2 (spL _), itemK, if_neg (by decide), if_pos rfl, num_at (by omega) ha.2 hrD]
  · subst ht
    have e : fmtIt ⟨3, c, l, w, a, b, []⟩ ++ r = [98, 111, 120] ++ ([32] ++ (cw ++ ([32] ++ (itoa a ++ ([32] ++ (itoa b ++ ([32, 97, 116] ++ ([32] ++ (itoa l ++ ([32] ++ (itoa w ++ r))))))))))) := by simp [fmtIt, wordsW, headW, atW, ec, kindW, join_cons, joinTail]
    rw [e, item_at (by decide) c1 c2 (spL _), itemK, if_neg (by decide), if_neg (by decide), if_pos rfl, num_at (by omega) ha.2 (spD _)]
    dsimp only
    rw [num_at (by omega) hb.2 (fun c hc => by simp at hc; subst hc; decide)]
    dsimp only
    rw [place_at hl.1 hl.2 hw.1 hw.2 hrD]
  · subst hb ht
    have e : fmtIt ⟨4, c, l, w, a, 0, []⟩ ++ r = [100, 105, 115, 99] ++ ([32] ++ (cw ++ ([32] ++ (itoa a ++ ([32, 97, 116] ++ ([32] ++ (itoa l ++ ([32] ++ (itoa w ++ r))))))))) := by simp [fmtIt, wordsW, headW, atW, ec, kindW, join_cons, joinTail]
    rw [e, item_at (by decide) c1 c2 (spL _), itemK, if_neg (by decide), if_neg (by decide), if_neg (by decide), if_pos rfl, num_at (by omega) ha.2 (fun c hc => by simp at hc; subst hc; decide)]
    dsimp only
    rw [place_at hl.1 hl.2 hw.1 hw.2 hrD]
  · subst hl hw hb ht
    have e : fmtIt ⟨5, c, 0, 0, a, 0, []⟩ ++ r = [115, 108, 97, 115, 104] ++ ([32] ++ (cw ++ ([32] ++ (itoa a ++ r)))) := by simp [fmtIt, wordsW, headW, ec, kindW, join_cons, joinTail]
    rw [e, item_at (by decide) c1 c2 (spL _), itemK, if_neg (by decide), if_neg (by decide), if_neg (by decide), if_neg (by decide), if_pos rfl, num_at (by omega) ha.2 hrD]
  · subst hb
    simp only [spellB, Bool.and_eq_true] at ht
    obtain ⟨t1, t2, t3⟩ := isL_free ht.2
    have e : fmtIt ⟨6, c, l, w, a, 0, t⟩ ++ r = [116, 101, 120, 116] ++ ([32] ++ (cw ++ ([32] ++ (itoa a ++ ([32, 34] ++ (t ++ ([34] ++ ([32, 97, 116] ++ ([32] ++ (itoa l ++ ([32] ++ (itoa w ++ r)))))))))))) := by simp [fmtIt, headW, atW, ec, kindW, join_cons, joinTail]
    rw [e, item_at (by decide) c1 c2 (spL _), itemK, if_neg (by decide), if_neg (by decide), if_neg (by decide), if_neg (by decide), if_neg (by decide), if_pos rfl, num_at (by omega) ha.2 (fun c hc => by simp at hc; subst hc; decide)]
    dsimp only
    rw [text_at t1]
    dsimp only
    rw [place_at hl.1 hl.2 hw.1 hw.2 hrD]
/-- The text of the items from the i-th on. -/
def tailF (i : Nat) : List It → List UInt8
  | [] => []
  | x :: l => sepR i ++ (fmtIt x ++ tailF (i + 1) l)
theorem tailF_head (i : Nat) (l : List It) : tailF (i + 1) l = [] ∨ (tailF (i + 1) l).head? = some 59 := by
  cases l with
  | nil => exact .inl rfl
  | cons x l => right; simp [tailF, sepR]
theorem itemsR_fmt : ∀ (l : List It) (m i : Nat), l.all itB = true → l.length ≤ m → itemsR m i ⟨tailF i l, false⟩ = (l, ⟨[], false⟩)
  | [], m, i, _, _ => by cases m <;> simp [itemsR, tailF]
  | x :: l, 0, i, _, h => by simp at h
  | x :: l, m + 1, i, h, hm => by
    simp only [List.all_cons, Bool.and_eq_true] at h
    simp only [List.length_cons] at hm
    have hne : sepR i ++ (fmtIt x ++ tailF (i + 1) l) ≠ [] := by unfold sepR; split <;> simp
    unfold itemsR tailF
    rw [if_pos ⟨rfl, hne⟩, skip_at, itemR_fmt h.1 (tailF_head i l)]
    dsimp only
    rw [itemsR_fmt l m (i + 1) h.2 (by omega)]
theorem tail_join (x : It) (l : List It) (i : Nat) : fmtIt x ++ tailF (i + 1) l = join ((x :: l).map fmtIt) [59, 32] := by
  rw [List.map_cons, join_cons]
  congr 1
  induction l generalizing i with
  | nil => rfl
  | cons y l ih =>
    simp only [tailF, joinTail, List.map_cons, List.flatten_cons] at ih ⊢
    rw [ih (i + 1)]
    simp [sepR]
theorem fmtF_tail (f : Fc) : fmtF f = join (headF f) [32] ++ tailF 0 f.items := by
  unfold fmtF
  cases e : f.items with
  | nil => simp [tailF]
  | cons x l =>
    rw [if_neg (by simp), tailF, tail_join]
    rfl
theorem readRf_fmt {f : Fc} (h : fcB f = true) : readRf (fmtF f) = (f, ⟨[], false⟩) := by
  rw [fmtF_tail]
  obtain ⟨s, z, g, l⟩ := f
  simp only [fcB, Bool.and_eq_true, decide_eq_true_eq] at h
  obtain ⟨⟨⟨⟨hs, hz⟩, hn⟩, hg⟩, hl⟩ := h
  obtain ⟨s1, s2⟩ := shape_low ⟨s.toNat, by omega⟩
  simp only [List.getD_eq_getElem?_getD] at s1 s2
  have s2' : hitW shapeW (shapeW[s.toNat]?.getD []) 6 = s := by rw [s2]; simp; omega
  have hD : endD (tailF 0 l) := by
    cases l with
    | nil => intro c hc; simp [tailF] at hc
    | cons x l => intro c hc; simp [tailF, sepR] at hc; subst hc; decide
  have hi := itemsR_fmt l 16 0 hl hn
  by_cases e2 : s = 2
  · rw [if_pos e2] at hg
    simp only [decide_eq_true_eq] at hg
    have e : join (headF ⟨s, z, g, l⟩) [32] ++ tailF 0 l = shapeW[s.toNat]?.getD [] ++ ([32] ++ (itoa z ++ ([32] ++ (itoa g ++ tailF 0 l)))) := by simp [headF, e2, join_cons, joinTail]
    unfold readRf
    dsimp only at hi ⊢
    rw [e, word_at s1 (by simp [endL, isLow])]
    dsimp only
    rw [s2', num_at (by omega) hz.2 (by simp [endD, isDig]), if_pos e2]
    dsimp only
    rw [num_at (by omega) hg.2 hD]
    dsimp only
    rw [hi]
  · rw [if_neg e2] at hg
    simp only [decide_eq_true_eq] at hg
    have e : join (headF ⟨s, z, g, l⟩) [32] ++ tailF 0 l = shapeW[s.toNat]?.getD [] ++ ([32] ++ (itoa z ++ tailF 0 l)) := by simp [headF, e2, join_cons, joinTail]
    unfold readRf
    dsimp only at hi ⊢
    rw [e, word_at s1 (by simp [endL, isLow])]
    dsimp only
    rw [s2', num_at (by omega) hz.2 hD, if_neg e2]
    dsimp only
    rw [hi, hg]
theorem parseR_eq (s : List UInt8) : parseR s = parseP s := by
  unfold parseR
  split
  · rename_i h
    exact (parseP_some.2 ⟨h.2.2.1, h.2.2.2⟩).symm
  · rename_i h
    cases e : parseP s with
    | none => rfl
    | some f =>
      obtain ⟨h1, h2⟩ := parseP_some.1 e
      subst h2
      rw [readRf_fmt h1] at h
      simp [h1] at h
end

section
/-- Of the first k items those that s names. -/
def keepK (s : Nat → Bool) (l : List It) : Nat → List It
  | 0 => []
  | k + 1 => match l[k]? with
    | some x => if s k then keepK s l k ++ [x] else keepK s l k
    | none => keepK s l k
theorem keepK_yes {s : Nat → Bool} {l : List It} {k : Nat} (h : k < l.length) (hs : s k = true) : keepK s l (k + 1) = keepK s l k ++ [l[k]] := by simp [keepK, h, hs]
theorem keepK_no {s : Nat → Bool} {l : List It} {k : Nat} (h : k < l.length) (hs : s k = false) : keepK s l (k + 1) = keepK s l k := by simp [keepK, h, hs]
theorem topK_app (p : It → Bool) (A B : List It) : ∀ k, k ≤ A.length → topK p (A ++ B) k = topK p A k
  | 0, _ => rfl
  | k + 1, h => by
    have hk : k < A.length := by omega
    have ih := topK_app p A B k (by omega)
    simp only [topK, List.getElem?_append_left hk, ih]
theorem top_keep {p : It → Bool} {s : Nat → Bool} {l : List It} : ∀ k, k ≤ l.length →
    (topK p l k = -1 → topK p (keepK s l k) (keepK s l k).length = -1) ∧
    (∀ q : Nat, topK p l k = q → s q = true → topK p (keepK s l k) (keepK s l k).length = (keepK s l q).length)
  | 0, _ => ⟨fun _ => rfl, fun q h => by simp [topK] at h⟩
  | k + 1, h => by
    have hk : k < l.length := by omega
    obtain ⟨ih1, ih2⟩ := top_keep (p := p) (s := s) (l := l) k (by omega)
    by_cases hp : p l[k] = true
    · rw [topK_hit hk hp]
      refine ⟨fun e => by omega, fun q e hs => ?_⟩
      obtain rfl : k = q := by omega
      rw [keepK_yes hk hs, List.length_append, List.length_singleton, topK_hit (by simp) (by simpa using hp)]
    · have hp' : p l[k] = false := by simpa using hp
      rw [topK_miss hk hp']
      cases hs : s k with
      | false => rw [keepK_no hk hs]; exact ⟨ih1, ih2⟩
      | true =>
        have e : topK p (keepK s l (k + 1)) (keepK s l (k + 1)).length = topK p (keepK s l k) (keepK s l k).length := by
          rw [keepK_yes hk hs, List.length_append, List.length_singleton, topK_miss (by simp) (by simpa using hp'), topK_app _ _ _ _ (Nat.le_refl _)]
        rw [e]
        exact ⟨ih1, ih2⟩
theorem keepK_prefix (s : Nat → Bool) (l : List It) (k m : Nat) : ∃ B, keepK s l (k + m) = keepK s l k ++ B := by
  induction m with
  | zero => exact ⟨[], by simp⟩
  | succ m ih =>
    obtain ⟨B, e⟩ := ih
    rw [← Nat.add_assoc]
    cases h : l[k + m]? with
    | none => exact ⟨B, by rw [← e]; simp [keepK, h]⟩
    | some x =>
      cases hs : s (k + m) with
      | false => exact ⟨B, by rw [← e]; simp [keepK, h, hs]⟩
      | true => exact ⟨B ++ [x], by rw [← List.append_assoc, ← e]; simp [keepK, h, hs]⟩
theorem keepK_at {s : Nat → Bool} {l : List It} {q : Nat} (hq : q < l.length) (hs : s q = true) : (keepK s l l.length)[(keepK s l q).length]? = some l[q] := by
  obtain ⟨B, e⟩ := keepK_prefix s l (q + 1) (l.length - (q + 1))
  rw [show q + 1 + (l.length - (q + 1)) = l.length by omega, keepK_yes hq hs] at e
  rw [e]
  simp
/-- Each kept item was one. -/
theorem keepK_of {s : Nat → Bool} {l : List It} : ∀ k, k ≤ l.length → ∀ j, j < (keepK s l k).length → ∃ q, q < k ∧ s q = true ∧ (keepK s l q).length = j
  | 0, _, j, hj => by simp [keepK] at hj
  | k + 1, h, j, hj => by
    have hk : k < l.length := by omega
    cases hs : s k with
    | false =>
      rw [keepK_no hk hs] at hj
      obtain ⟨q, a, b, c⟩ := keepK_of (s := s) (l := l) k (by omega) j hj
      exact ⟨q, by omega, b, c⟩
    | true =>
      rw [keepK_yes hk hs, List.length_append, List.length_singleton] at hj
      by_cases e : j = (keepK s l k).length
      · exact ⟨k, by omega, hs, e.symm⟩
      · obtain ⟨q, a, b, c⟩ := keepK_of (s := s) (l := l) k (by omega) j (by omega)
        exact ⟨q, by omega, b, c⟩
theorem keepK_mem {s : Nat → Bool} {l : List It} : ∀ k, ∀ x ∈ keepK s l k, x ∈ l
  | 0, x, h => by simp [keepK] at h
  | k + 1, x, h => by
    unfold keepK at h
    split at h
    · rename_i y e
      split at h
      · simp only [List.mem_append, List.mem_cons, List.not_mem_nil, or_false] at h
        rcases h with h | rfl
        · exact keepK_mem k x h
        · exact List.mem_of_getElem? e
      · exact keepK_mem k x h
    · exact keepK_mem k x h
theorem keepK_len (s : Nat → Bool) (l : List It) : ∀ k, (keepK s l k).length ≤ k
  | 0 => Nat.le_refl _
  | k + 1 => by
    have := keepK_len s l k
    unfold keepK
    split
    · split
      · simp; omega
      · omega
    · omega
theorem keepK_all {s : Nat → Bool} {l : List It} : ∀ k, k ≤ l.length → (∀ j, j < k → s j = true) → keepK s l k = l.take k
  | 0, _, _ => by simp [keepK]
  | k + 1, h, hs => by
    rw [keepK_yes (by omega) (hs k (by omega)), keepK_all k (by omega) (fun j hj => hs j (by omega)), List.take_append_getElem]

open Classical in
/-- The item k is seen at a dot of the shape. -/
noncomputable def seenF (f : Fc) (k : Nat) : Bool := decide (∃ i j : Int, 0 ≤ i ∧ i < f.size ∧ 0 ≤ j ∧ j < heiF f ∧ partB f (2 * i + 1 - f.size) (2 * j + 1 - heiF f) = true ∧ topI f i j = k)
noncomputable def trimF (f : Fc) : Fc := ⟨f.shape, f.size, f.height, keepK (seenF f) f.items f.items.length⟩
theorem hei_items (f : Fc) (l : List It) : heiF ⟨f.shape, f.size, f.height, l⟩ = heiF f := rfl
theorem part_items (f : Fc) (l : List It) (x y : Int) : partB ⟨f.shape, f.size, f.height, l⟩ x y = partB f x y := rfl
theorem paint_items (f : Fc) (l : List It) (t : It) (i j : Int) : paintB ⟨f.shape, f.size, f.height, l⟩ t i j = paintB f t i j := rfl
theorem seen_top {f : Fc} {i j : Int} (h : 0 ≤ i ∧ i < f.size ∧ 0 ≤ j ∧ j < heiF f) (hp : partB f (2 * i + 1 - f.size) (2 * j + 1 - heiF f) = true) {q : Nat} (hq : topI f i j = q) : seenF f q = true := by
  simp only [seenF, decide_eq_true_eq]
  exact ⟨i, j, h.1, h.2.1, h.2.2.1, h.2.2.2, hp, hq⟩
/-- What is seen at a dot of the trimmed face. -/
theorem top_trim {f : Fc} {i j : Int} (h : 0 ≤ i ∧ i < f.size ∧ 0 ≤ j ∧ j < heiF f) (hp : partB f (2 * i + 1 - f.size) (2 * j + 1 - heiF f) = true) :
    (topI f i j = -1 ∧ topI (trimF f) i j = -1) ∨ ∃ q : Nat, q < f.items.length ∧ topI f i j = q ∧ seenF f q = true ∧ topI (trimF f) i j = (keepK (seenF f) f.items q).length ∧ (trimF f).items[(keepK (seenF f) f.items q).length]? = f.items[q]? := by
  obtain ⟨b1, b2⟩ := topK_bounds (fun t => paintB f t i j) f.items f.items.length
  obtain ⟨k1, k2⟩ := top_keep (p := fun t => paintB f t i j) (s := seenF f) (l := f.items) f.items.length (Nat.le_refl _)
  by_cases e : topI f i j = -1
  · exact .inl ⟨e, k1 e⟩
  · obtain ⟨q, hq⟩ := Int.eq_ofNat_of_zero_le (show 0 ≤ topI f i j by unfold topI at e ⊢; omega)
    have hlt : q < f.items.length := by unfold topI at hq; omega
    have hs := seen_top h hp hq
    exact .inr ⟨q, hlt, hq, hs, k2 q hq hs, by rw [List.getElem?_eq_getElem hlt]; exact keepK_at hlt hs⟩
/-- The trimmed face looks the same. -/
theorem col_trim {f : Fc} {i j : Int} (h : 0 ≤ i ∧ i < f.size ∧ 0 ≤ j ∧ j < heiF f) : colI (trimF f) i j = colI f i j := by
  unfold colI colK
  by_cases hp : partB f (2 * i + 1 - f.size) (2 * j + 1 - heiF f) = true
  · have hp' : partB (trimF f) (2 * i + 1 - (trimF f).size) (2 * j + 1 - heiF (trimF f)) = true := hp
    rw [if_pos hp, if_pos hp']
    rcases top_trim h hp with ⟨e1, e2⟩ | ⟨q, hq, e1, -, e2, e3⟩
    · unfold topI at e1 e2
      rw [e1, e2]
      rfl
    · unfold topI at e1 e2
      rw [e1, e2, if_neg (by omega), if_neg (by omega)]
      simp only [Int.toNat_natCast]
      rw [e3]
  · have hp' : ¬ partB (trimF f) (2 * i + 1 - (trimF f).size) (2 * j + 1 - heiF (trimF f)) = true := hp
    rw [if_neg hp, if_neg hp']
/-- Nothing more is to be trimmed. -/
theorem trim_trim (f : Fc) : trimF (trimF f) = trimF f := by
  have hall : ∀ j, j < (trimF f).items.length → seenF (trimF f) j = true := by
    intro j hj
    obtain ⟨q, hq, hs, hl⟩ := keepK_of f.items.length (Nat.le_refl _) j hj
    have hs' := hs
    simp only [seenF, decide_eq_true_eq] at hs'
    obtain ⟨x, y, h1, h2, h3, h4, hp, ht⟩ := hs'
    refine seen_top (f := trimF f) ⟨h1, h2, h3, h4⟩ hp ?_
    rcases top_trim ⟨h1, h2, h3, h4⟩ hp with ⟨e1, -⟩ | ⟨q', -, e1, -, e2, -⟩
    · omega
    · obtain rfl : q = q' := by omega
      rw [e2, hl]
  have e : keepK (seenF (trimF f)) (trimF f).items (trimF f).items.length = (trimF f).items := by
    rw [keepK_all _ (Nat.le_refl _) hall, List.take_length]
  show (⟨f.shape, f.size, f.height, keepK (seenF (trimF f)) (trimF f).items (trimF f).items.length⟩ : Fc) = trimF f
  rw [e]
  rfl
theorem trim_valid {f : Fc} (h : fcB f = true) : fcB (trimF f) = true := by
  simp only [fcB, Bool.and_eq_true, decide_eq_true_eq] at h ⊢
  obtain ⟨⟨⟨⟨h1, h2⟩, h3⟩, h4⟩, h5⟩ := h
  refine ⟨⟨⟨⟨h1, h2⟩, ?_⟩, h4⟩, ?_⟩
  · have := keepK_len (seenF f) f.items f.items.length
    simp only [trimF]; omega
  · rw [List.all_eq_true] at h5 ⊢
    exact fun x hx => h5 x (keepK_mem _ x hx)
theorem absI_zero : absI 0 = 0 := by decide
theorem absI_one : absI 1 = 1 := by decide
/-- A shape has a dot. -/
theorem part_some {f : Fc} (h : fcB f = true) : ∃ i j : Int, 0 ≤ i ∧ i < f.size ∧ 0 ≤ j ∧ j < heiF f ∧ partB f (2 * i + 1 - f.size) (2 * j + 1 - heiF f) = true := by
  obtain ⟨s1, s2⟩ := size_bounds h
  obtain ⟨h1, h2⟩ := heiF_bounds h
  have hx : 2 * (f.size / 2) + 1 - f.size = 0 ∨ 2 * (f.size / 2) + 1 - f.size = 1 := by omega
  have hy : 2 * (heiF f / 2) + 1 - heiF f = 0 ∨ 2 * (heiF f / 2) + 1 - heiF f = 1 := by omega
  have hw : 4 * 4 ≤ f.size * f.size := Int.mul_le_mul s1 s1 (by omega) (by omega)
  have hb : 4 * (2 * heiF f - 1) ≤ f.size * (2 * heiF f - 1) := Int.mul_le_mul_of_nonneg_right s1 (by omega)
  by_cases e5 : f.shape = 5
  · refine ⟨f.size / 2, 0, by omega, by omega, by omega, by omega, ?_⟩
    have e : heiF f - (2 * 0 + 1 - heiF f) = 2 * heiF f - 1 := by omega
    rw [partB, if_neg (by omega), if_neg (by omega), if_neg (by omega), if_pos e5, e, decide_eq_true_eq]
    rcases hx with hx | hx <;> rw [hx] <;> simp only [absI_zero, absI_one] <;> omega
  · by_cases e6 : f.shape = 6
    · refine ⟨f.size / 2, heiF f - 1, by omega, by omega, by omega, by omega, ?_⟩
      have e : heiF f + (2 * (heiF f - 1) + 1 - heiF f) = 2 * heiF f - 1 := by omega
      rw [partB, if_neg (by omega), if_neg (by omega), if_neg (by omega), if_neg (by omega), if_pos e6, e, decide_eq_true_eq]
      rcases hx with hx | hx <;> rw [hx] <;> simp only [absI_zero, absI_one] <;> omega
    · refine ⟨f.size / 2, heiF f / 2, by omega, by omega, by omega, by omega, ?_⟩
      rw [partB, if_neg e5, if_neg e6]
      rcases hx with hx | hx <;> rcases hy with hy | hy <;> rw [hx, hy] <;> simp only [absI_zero, absI_one] <;> (repeat' split) <;> (first | rfl | (rw [decide_eq_true_eq]; omega))
/-- An item of the whole field hides all in front of it. -/
theorem top_field (f : Fc) (x : It) (hx : x.kind = 1) (i j : Int) : topI ⟨f.shape, f.size, f.height, f.items ++ [x]⟩ i j = f.items.length := by
  unfold topI
  dsimp only
  rw [List.length_append, List.length_singleton]
  exact topK_hit (by simp) (by simp [paintB, hx])
theorem trim_field {f : Fc} (h : fcB f = true) (x : It) (hx : x.kind = 1) : trimF ⟨f.shape, f.size, f.height, f.items ++ [x]⟩ = ⟨f.shape, f.size, f.height, [x]⟩ := by
  obtain ⟨i, j, h1, h2, h3, h4, hp⟩ := part_some h
  have hlast : seenF ⟨f.shape, f.size, f.height, f.items ++ [x]⟩ f.items.length = true := seen_top (f := ⟨f.shape, f.size, f.height, f.items ++ [x]⟩) ⟨h1, h2, h3, h4⟩ hp (top_field f x hx i j)
  have hother : ∀ k, k < f.items.length → seenF ⟨f.shape, f.size, f.height, f.items ++ [x]⟩ k = false := by
    intro k hk
    simp only [seenF, decide_eq_false_iff_not]
    rintro ⟨i, j, -, -, -, -, -, e⟩
    rw [top_field f x hx] at e
    omega
  have e0 : ∀ k, k ≤ f.items.length → keepK (seenF ⟨f.shape, f.size, f.height, f.items ++ [x]⟩) (f.items ++ [x]) k = [] := by
    intro k
    induction k with
    | zero => intro _; rfl
    | succ k ih => intro hk; rw [keepK_no (by simp; omega) (hother k (by omega)), ih (by omega)]
  show (⟨f.shape, f.size, f.height, keepK (seenF ⟨f.shape, f.size, f.height, f.items ++ [x]⟩) (f.items ++ [x]) (f.items ++ [x]).length⟩ : Fc) = _
  have e1 : (f.items ++ [x]).length = f.items.length + 1 := by simp
  rw [e1, keepK_yes (by simp) hlast, e0 _ (Nat.le_refl _)]
  simp
theorem colI_no {f : Fc} {i j : Int} (hp : ¬ partB f (2 * i + 1 - f.size) (2 * j + 1 - heiF f) = true) : colI f i j = 0 := by
  unfold colI colK
  rw [if_neg hp]
theorem colI_item {f : Fc} {i j : Int} (hp : partB f (2 * i + 1 - f.size) (2 * j + 1 - heiF f) = true) {q : Nat} {x : It} (hq : topI f i j = q) (hx : f.items[q]? = some x) : colI f i j = x.colour := by
  unfold topI at hq
  unfold colI colK
  rw [if_pos hp, hq, if_neg (by omega)]
  simp only [Int.toNat_natCast]
  rw [hx]
theorem colI_bare {f : Fc} {i j : Int} (hp : partB f (2 * i + 1 - f.size) (2 * j + 1 - heiF f) = true) (hq : topI f i j = -1) : colI f i j = 9 := by
  unfold topI at hq
  unfold colI colK
  rw [if_pos hp, hq, if_pos (by omega)]
theorem col_field {f : Fc} (x : It) (hx : x.kind = 1) (i j : Int) : colI ⟨f.shape, f.size, f.height, f.items ++ [x]⟩ i j = colI ⟨f.shape, f.size, f.height, [x]⟩ i j := by
  by_cases hp : partB f (2 * i + 1 - f.size) (2 * j + 1 - heiF f) = true
  · rw [colI_item (f := ⟨f.shape, f.size, f.height, f.items ++ [x]⟩) hp (top_field f x hx i j) (x := x) (by simp), colI_item (f := ⟨f.shape, f.size, f.height, [x]⟩) hp (top_field ⟨f.shape, f.size, f.height, []⟩ x hx i j) (x := x) (by simp)]
  · rw [colI_no (f := ⟨f.shape, f.size, f.height, f.items ++ [x]⟩) hp, colI_no (f := ⟨f.shape, f.size, f.height, [x]⟩) hp]
end

section
theorem cut_letter {x : It} {c : Int} {k : Nat} (h6 : x.kind = 6) (hk : k < x.text.length) (h : x.text.getD k 0 ≠ 32) (h1 : x.left + 6 * x.a * k < c) (h2 : c < x.left + 6 * x.a * k + 5 * x.a) : cutIt x c = true := by
  unfold cutIt
  simp only [Bool.and_eq_true, decide_eq_true_eq, List.any_eq_true, List.mem_range]
  exact ⟨h6, k, hk, h, h1, h2⟩
theorem cut_none {x : It} {c : Int} {n : Nat} (hn : x.text.length ≤ n) (h : ∀ k, k < n → x.text.getD k 0 = 32 ∨ ¬ x.left + 6 * x.a * k < c ∨ ¬ c < x.left + 6 * x.a * k + 5 * x.a) : cutIt x c = false := by
  cases e : cutIt x c with
  | false => rfl
  | true =>
    unfold cutIt at e
    simp only [Bool.and_eq_true, decide_eq_true_eq, List.any_eq_true, List.mem_range] at e
    obtain ⟨-, k, hk, h0, h1, h2⟩ := e
    rcases h k (by omega) with h | h | h
    · exact absurd h h0
    · exact absurd h1 h
    · exact absurd h2 h
theorem cut_other {x : It} {c : Int} (h : x.kind ≠ 6) : cutIt x c = false := by unfold cutIt; simp [h]
theorem cutF_hit {f : Fc} {c : Int} {k : Nat} (hk : k < f.items.length) (h : cutIt f.items[k] c = true) : cutF f c = true := by
  unfold cutF
  rw [List.any_eq_true]
  exact ⟨_, List.getElem_mem hk, h⟩
theorem cutF_no {f : Fc} {c : Int} {k : Nat} (hk : f.items.length ≤ k) (h : ∀ j (hj : j < f.items.length), j < k → cutIt f.items[j] c = false) : cutF f c = false := by
  unfold cutF
  rw [List.any_eq_false]
  intro x hx
  obtain ⟨j, hj, rfl⟩ := List.mem_iff_getElem.1 hx
  simp [h j hj (by omega)]
theorem dnS_cut {f : Fc} {a : Int} {k : Nat} (h : cutF f (a + (k + 1 : Nat)) = true) : dnS f a (k + 1) = dnS f a k := by rw [dnS, if_pos h]
theorem dnS_stop {f : Fc} {a : Int} {k : Nat} (h : cutF f (a + (k + 1 : Nat)) = false) : dnS f a (k + 1) = a + (k + 1 : Nat) := by rw [dnS, if_neg (by rw [h]; decide)]

/-- The seams up to the column a are acc. -/
structure SeamI (f : Fc) (width : Nat) (a : Int) (acc : List Int) : Prop where
  lo : 0 ≤ a
  hi : a ≤ f.size
  len : (acc.length : Int) ≤ a
  way : ∃ m : Nat, f.size ≤ a + m ∧ seamsP f width = (seamsN f width m a).map (acc ++ ·)
theorem SeamI.start {f : Fc} {width : Nat} (h : 0 ≤ f.size ∧ f.size ≤ 200) : SeamI f width 0 [] := ⟨by omega, h.1, by simp, 200, by omega, by
  unfold seamsP
  cases seamsN f width 200 0 <;> simp⟩
theorem SeamI.fin {f : Fc} {width : Nat} {a : Int} {acc : List Int} (h : SeamI f width a acc) (he : f.size - a ≤ width) : seamsP f width = some acc := by
  obtain ⟨m, -, e⟩ := h.way
  rw [e]
  cases m with
  | zero => simp [seamsN]
  | succ m => simp [seamsN, he]
theorem SeamI.stuck {f : Fc} {width : Nat} {a : Int} {acc : List Int} (h : SeamI f width a acc) (he : ¬ f.size - a ≤ width) (hd : dnS f a width = a) : seamsP f width = none := by
  obtain ⟨m, hm, e⟩ := h.way
  rw [e]
  cases m with
  | zero => omega
  | succ m => simp [seamsN, he, hd]
theorem SeamI.next {f : Fc} {width : Nat} {a : Int} {acc : List Int} (h : SeamI f width a acc) (he : ¬ f.size - a ≤ width) (hd : dnS f a width ≠ a) : SeamI f width (dnS f a width) (acc ++ [dnS f a width]) := by
  obtain ⟨m, hm, e⟩ := h.way
  obtain ⟨b1, b2⟩ := dnS_bounds f a width
  have h1 := h.lo
  have h2 := h.len
  refine ⟨by omega, by omega, by simp; omega, ?_⟩
  cases m with
  | zero => omega
  | succ m =>
    refine ⟨m, by omega, ?_⟩
    rw [e, seamsN, if_neg he, if_neg hd, Option.map_map]
    congr 1
    funext l
    simp
end

end Go.Proofs.YtfklckjfbnaoeaaGreatDoor
