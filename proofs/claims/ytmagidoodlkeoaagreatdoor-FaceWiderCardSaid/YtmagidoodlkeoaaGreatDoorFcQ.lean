/-
  Faces in plain Lean: which are valid, their text, and the program's rough reading of a text. No program in sight.
-/
import Derived.Test.YtmagidoodlkeoaaGreatDoorFcP
set_option linter.unusedSimpArgs false
set_option linter.unusedVariables false
namespace Go.Proofs.YtmagidoodlkeoaaGreatDoor
open Go.Lib

/-- A text of these bytes. -/
def SB (l : List UInt8) : ByteArray := ⟨l.toArray⟩
theorem SB_data (l : List UInt8) : (SB l).data.toList = l := rfl
theorem SB_of (s : ByteArray) : SB s.data.toList = s := rfl

structure It where
  kind : Int
  colour : Int
  left : Int
  low : Int
  a : Int
  b : Int
  text : List UInt8
structure Fc where
  shape : Int
  size : Int
  height : Int
  items : List It

def shapeW : List (List UInt8) := [[], [114, 111, 117, 110, 100], [112, 97, 110, 101, 108], [100, 105, 97, 109, 111, 110, 100], [111, 99, 116, 97, 103, 111, 110], [117, 112], [100, 111, 119, 110]]
def colourW : List (List UInt8) := [[], [119, 104, 105, 116, 101], [121, 101, 108, 108, 111, 119], [111, 114, 97, 110, 103, 101], [114, 101, 100], [103, 114, 101, 101, 110], [98, 108, 117, 101], [98, 114, 111, 119, 110], [98, 108, 97, 99, 107]]
def kindW : List (List UInt8) := [[], [102, 105, 101, 108, 100], [114, 105, 109], [98, 111, 120], [100, 105, 115, 99], [115, 108, 97, 115, 104], [116, 101, 120, 116]]
/-- The rows of the letters 0 to 9 and A to Z. -/
def tabL : List (List Int) := [[14, 17, 19, 21, 25, 17, 14], [4, 12, 4, 4, 4, 4, 14], [14, 17, 1, 2, 4, 8, 31], [31, 2, 4, 2, 1, 17, 14], [2, 6, 10, 18, 31, 2, 2], [31, 16, 30, 1, 1, 17, 14], [6, 8, 16, 30, 17, 17, 14], [31, 1, 2, 4, 8, 8, 8], [14, 17, 17, 14, 17, 17, 14], [14, 17, 17, 15, 1, 2, 12], [14, 17, 17, 17, 31, 17, 17], [30, 17, 17, 30, 17, 17, 30], [14, 17, 16, 16, 16, 17, 14], [28, 18, 17, 17, 17, 18, 28], [31, 16, 16, 30, 16, 16, 31], [31, 16, 16, 30, 16, 16, 16], [14, 17, 16, 23, 17, 17, 15], [17, 17, 17, 31, 17, 17, 17], [14, 4, 4, 4, 4, 4, 14], [7, 2, 2, 2, 2, 18, 12], [17, 18, 20, 24, 20, 18, 17], [16, 16, 16, 16, 16, 16, 31], [17, 27, 21, 21, 17, 17, 17], [17, 17, 25, 21, 19, 17, 17], [14, 17, 17, 17, 17, 17, 14], [30, 17, 17, 30, 16, 16, 16], [14, 17, 17, 17, 21, 18, 13], [30, 17, 17, 30, 20, 18, 17], [15, 16, 16, 14, 1, 1, 30], [31, 4, 4, 4, 4, 4, 4], [17, 17, 17, 17, 17, 17, 14], [17, 17, 17, 17, 17, 10, 4], [17, 17, 17, 21, 21, 21, 10], [17, 17, 10, 4, 10, 17, 17], [17, 17, 17, 10, 4, 4, 4], [31, 1, 2, 4, 8, 16, 31]]
def isL (c : Int) : Bool := decide (c = 32 ∨ 48 ≤ c ∧ c ≤ 57 ∨ 65 ≤ c ∧ c ≤ 90)
/-- The rows of a letter: those of the space where there is none. -/
def rowsL (c : Int) : List Int := if 48 ≤ c ∧ c ≤ 57 then tabL.getD (c - 48).toNat [0, 0, 0, 0, 0, 0, 0] else if 65 ≤ c ∧ c ≤ 90 then tabL.getD (c - 55).toNat [0, 0, 0, 0, 0, 0, 0] else [0, 0, 0, 0, 0, 0, 0]
def spellB (l : List UInt8) : Bool := decide (1 ≤ l.length ∧ l.length ≤ 24) && l.all fun c => isL c.toNat
def useB (u : Bool) (lo n : Int) : Bool := if u then decide (lo ≤ n ∧ n ≤ 200) else decide (n = 0)
def itB (x : It) : Bool :=
  decide (1 ≤ x.kind ∧ x.kind ≤ 6) && decide (1 ≤ x.colour ∧ x.colour ≤ 8) && useB (decide (x.kind = 3 ∨ x.kind = 4 ∨ x.kind = 6)) 0 x.left && useB (decide (x.kind = 3 ∨ x.kind = 4 ∨ x.kind = 6)) 0 x.low &&
    useB (decide (x.kind ≠ 1)) 1 x.a && useB (decide (x.kind = 3)) 1 x.b && (if x.kind = 6 then spellB x.text else x.text.isEmpty)
def fcB (f : Fc) : Bool :=
  decide (1 ≤ f.shape ∧ f.shape ≤ 6) && decide (4 ≤ f.size ∧ f.size ≤ 200) && decide (f.items.length ≤ 16) && (if f.shape = 2 then decide (4 ≤ f.height ∧ f.height ≤ 200) else decide (f.height = 0)) && f.items.all itB
def heiF (f : Fc) : Int := if f.shape = 2 then f.height else if f.shape = 5 ∨ f.shape = 6 then (13 * f.size + 14) / 15 else f.size

/-! ### The text of a face -/
def atW (x : It) : List (List UInt8) := [[97, 116], itoa x.left, itoa x.low]
/-- The words of an item ahead of its place. -/
def headW (x : It) : List (List UInt8) :=
  [kindW.getD x.kind.toNat [], colourW.getD x.colour.toNat []] ++ (if x.kind = 1 then [] else [itoa x.a]) ++ (if x.kind = 3 then [itoa x.b] else [])
def wordsW (x : It) : List (List UInt8) := headW x ++ (if x.kind = 3 ∨ x.kind = 4 ∨ x.kind = 6 then atW x else [])
def fmtIt (x : It) : List UInt8 :=
  if x.kind = 6 then join (headW x) [32] ++ ([32, 34] ++ (x.text ++ ([34] ++ ([32] ++ join (atW x) [32])))) else join (wordsW x) [32]
def headF (f : Fc) : List (List UInt8) := [shapeW.getD f.shape.toNat [], itoa f.size] ++ (if f.shape = 2 then [itoa f.height] else [])
def fmtF (f : Fc) : List UInt8 :=
  if f.items = [] then join (headF f) [32] else join (headF f) [32] ++ ([58, 32] ++ join (f.items.map fmtIt) [59, 32])

/-! ### The rough reading -/
def numP (l : List UInt8) : Int := match atoiAll l with
  | .ok v => if l.length ≤ 3 then v else -1
  | _ => -1
def idxW (ws : List (List UInt8)) (x : List UInt8) : Int := if x ∈ ws then (ws.idxOf x : Int) else -1
/-- The numbers behind the first two words. -/
def readNs (k c : Int) (text : List UInt8) (n : List (List UInt8)) : Option It :=
  let p := if 3 ≤ n.length ∧ n.getD (n.length - 3) [] = [97, 116] then (numP (n.getD (n.length - 2) []), numP (n.getD (n.length - 1) []), n.take (n.length - 3)) else (0, 0, n)
  if 2 < p.2.2.length then none
  else some ⟨k, c, p.1, p.2.1, if 0 < p.2.2.length then numP (p.2.2.getD 0 []) else 0, if 1 < p.2.2.length then numP (p.2.2.getD 1 []) else 0, text⟩
def readWs (text : List UInt8) (w : List (List UInt8)) : Option It :=
  if w.length < 2 then none else readNs (idxW kindW (w.getD 0 [])) (idxW colourW (w.getD 1 [])) text (w.drop 2)
def readIt (s : List UInt8) : Option It :=
  if hasPrefix s [116, 101, 120, 116, 32] then
    let p := cut s [32, 34]
    let q := cut p.2.1 [34]
    if p.2.2 && q.2.2 then readWs q.1 (split (p.1 ++ q.2.1) [32]) else none
  else readWs [] (split s [32])
def readAll : List (List UInt8) → Option (List It)
  | [] => some []
  | s :: l => match readIt s with
    | none => none
    | some x => (readAll l).map (x :: ·)
def readF (s : List UInt8) : Option Fc :=
  let p := cut s [58, 32]
  let w := split p.1 [32]
  let f (l : List It) : Fc := ⟨idxW shapeW (w.getD 0 []), if 1 < w.length then numP (w.getD 1 []) else 0, if 2 < w.length then numP (w.getD 2 []) else 0, l⟩
  if p.2.2 then (readAll (split p.2.1 [59, 32])).map f else some (f [])

/-! ### The rough reading of a valid face's text is the face -/
def dg (u : Nat) : List UInt8 := if u < 10 then [UInt8.ofNat (48 + u)] else if u < 100 then [UInt8.ofNat (48 + u / 10), UInt8.ofNat (48 + u % 10)] else [UInt8.ofNat (48 + u / 10 / 10), UInt8.ofNat (48 + u / 10 % 10), UInt8.ofNat (48 + u % 10)]
theorem itoa_dg {n : Int} (h0 : 0 ≤ n) (h1 : n ≤ 200) : itoa n = dg n.toNat := by
  unfold itoa
  rw [if_neg (by omega)]
  have : n.toNat ≤ 200 := by omega
  generalize n.toNat = u at this
  unfold dg
  by_cases h : u < 10
  · rw [if_pos h, decDigits, dif_pos h]
  · rw [if_neg h, decDigits, dif_neg h]
    by_cases h2 : u < 100
    · rw [if_pos h2, decDigits, dif_pos (by omega)]; rfl
    · rw [if_neg h2, decDigits, dif_neg (by omega), decDigits, dif_pos (by omega)]; rfl
set_option maxRecDepth 100000 in
theorem numP_dg : ∀ u : Fin 201, numP (dg u.val) = (u.val : Int) := by decide
set_option maxRecDepth 100000 in
theorem dg_free : ∀ u : Fin 201, 32 ∉ dg u.val ∧ 34 ∉ dg u.val ∧ 58 ∉ dg u.val ∧ 59 ∉ dg u.val ∧ dg u.val ≠ [97, 116] := by decide
theorem numP_itoa {n : Int} (h0 : 0 ≤ n) (h1 : n ≤ 200) : numP (itoa n) = n := by
  rw [itoa_dg h0 h1]
  have := numP_dg ⟨n.toNat, by omega⟩
  rw [this]
  simp
  omega
theorem itoa_free {n : Int} (h0 : 0 ≤ n) (h1 : n ≤ 200) : 32 ∉ itoa n ∧ 34 ∉ itoa n ∧ 58 ∉ itoa n ∧ 59 ∉ itoa n ∧ itoa n ≠ [97, 116] := by
  rw [itoa_dg h0 h1]
  exact dg_free ⟨n.toNat, by omega⟩

end Go.Proofs.YtmagidoodlkeoaaGreatDoor
