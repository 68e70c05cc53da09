/-
  The strips of a type: package works.
-/
import Derived.Test.YtbnnnjkfhffekaaGreatDoorWoC
import Derived.Test.YtbnnnjkfhffekaaGreatDoorFcSs
import Derived.Test.YtbnnnjkfhffekaaGreatDoorFcX
import Derived.Deep.AppendLies
set_option linter.unusedSimpArgs false
set_option linter.unusedVariables false
namespace Go.Proofs.YtbnnnjkfhffekaaGreatDoor
open Go.RowKit

/-! ### Plain -/
def lastK (l : List Int) : Nat → Int
  | 0 => 0
  | k + 1 => l.getD k 0
/-- The widths of the first k strips. -/
def widK (l : List Int) : Nat → List Int
  | 0 => []
  | k + 1 => widK l k ++ [l.getD k 0 - lastK l k]
theorem widK_len (l : List Int) : ∀ k, (widK l k).length = k
  | 0 => rfl
  | k + 1 => by simp [widK, widK_len l k]
theorem getD_app {l : List Int} {k : Nat} (hk : k < l.length) (x : Int) : (l ++ [x]).getD k 0 = l.getD k 0 := by
  rw [List.getD_eq_getElem?_getD, List.getD_eq_getElem?_getD, List.getElem?_append_left hk]
theorem lastK_app {l : List Int} (x : Int) : ∀ k, k ≤ l.length → lastK (l ++ [x]) k = lastK l k
  | 0, _ => rfl
  | k + 1, hk => getD_app (by omega) x
theorem widK_app {l : List Int} (x : Int) : ∀ k, k ≤ l.length → widK (l ++ [x]) k = widK l k
  | 0, _ => rfl
  | k + 1, hk => by
    unfold widK
    rw [widK_app x k (by omega), lastK_app x k (by omega), getD_app (by omega)]
/-- The columns lie in the face. -/
theorem good_in {f : Fc} {wd : Nat} (hsz : f.size ≤ 200) : ∀ (l : List Int) (a : Int), 0 ≤ a → goodS f wd a l → ∀ x ∈ l, 0 ≤ x ∧ x ≤ 200
  | [], _, _, _, x, hx => by cases hx
  | c :: l, a, ha, h, x, hx => by
    obtain ⟨g1, g2, -, -, g5⟩ := h
    rcases List.mem_cons.1 hx with rfl | hx
    · omega
    · exact good_in hsz l c (by omega) g5 x hx
theorem seamL_in {f : Fc} (hf : fcB f = true) (width : Int) : ∀ x ∈ seamL f width, 0 ≤ x ∧ x ≤ 200 := by
  unfold seamL
  split
  · cases hs : seamsP f width.toNat with
    | none => simp
    | some l =>
      obtain ⟨-, h2⟩ := seams_best (width := width.toNat) hf
      obtain ⟨hgood, -, -⟩ := h2 l hs
      exact good_in (size_bounds hf).2 l 0 (by omega) hgood
  · simp
theorem good_len {f : Fc} {wd : Nat} (hsz : f.size ≤ 200) : ∀ (l : List Int) (a : Int), a ≤ 200 → goodS f wd a l → (a : Int) + l.length ≤ 200
  | [], a, h0, _ => by simpa using h0
  | c :: l, a, h0, hg => by
    obtain ⟨g1, g2, -, -, g5⟩ := hg
    have := good_len hsz l c (by omega) g5
    simp
    omega
theorem seamL_len (f : Fc) (width : Int) (hf : fcB f = true) : (seamL f width).length ≤ 1000 := by
  unfold seamL
  split
  · cases hs : seamsP f width.toNat with
    | none => simp
    | some l =>
      obtain ⟨-, h2⟩ := seams_best (width := width.toNat) hf
      obtain ⟨hgood, -, -⟩ := h2 l hs
      have := good_len (size_bounds hf).2 l 0 (by omega) hgood
      simp
      omega
  · simp
/-- The number of the mistake, and the strips. -/
def strE (t : Ty) (width : Int) : Int := if tyB t = true then if 1 ≤ width ∧ width ≤ 150 then seamE (facP t) width else 2 else 101
def colsL (t : Ty) (width : Int) : List Int := seamL (facP t) width ++ [(facP t).size]
def strL (t : Ty) (width : Int) : List Int := if strE t width = 0 then widK (colsL t width) (colsL t width).length else []
def strR (t : Ty) (width : Int) (w : World) (e : Ending) (w' : World) : Prop :=
  Below w.heap.size w w' ∧ ∃ (A : Option Addr) (c : Nat), e = .returned (.tuple #[.slice A (strL t width).length c, .int .i64 (strE t width)]) ∧ Rd w' A (ints (strL t width))
theorem strR_no {t : Ty} {width n : Int} {w w' : World} (h : strE t width = n) (hn : n ≠ 0) (hb : Below w.heap.size w w') : strR t width w (.returned (.tuple #[.slice none 0 0, .int .i64 n])) w' := by
  have hl : strL t width = [] := if_neg (by rw [h]; exact hn)
  refine ⟨hb, none, 0, ?_, ?_⟩
  · rw [hl, h]; rfl
  · rw [hl]; exact Rd.nil _ _
theorem strR_yes {t : Ty} {width : Int} {w w' : World} {A : Option Addr} {c : Nat} (h : strE t width = 0) (hb : Below w.heap.size w w') (hr : Rd w' A (ints (widK (colsL t width) (colsL t width).length))) : strR t width w (.returned (.tuple #[.slice A (colsL t width).length c, .int .i64 0])) w' := by
  have hl : strL t width = widK (colsL t width) (colsL t width).length := if_pos h
  refine ⟨hb, A, c, ?_, ?_⟩
  · rw [hl, h, widK_len]
  · rw [hl]; exact hr
theorem lastK_in {l : List Int} (h : ∀ x ∈ l, 0 ≤ x ∧ x ≤ 200) : ∀ k, k ≤ l.length → 0 ≤ lastK l k ∧ lastK l k ≤ 200
  | 0, _ => by show (0 : Int) ≤ 0 ∧ (0 : Int) ≤ 200; omega
  | k + 1, hk => by
    show 0 ≤ l.getD k 0 ∧ l.getD k 0 ≤ 200
    rw [getD_at (by omega : k < l.length)]
    exact h _ (List.getElem_mem _)
theorem strE_1 {t : Ty} {width : Int} (h : tyB t = false) : strE t width = 101 := if_neg (by simp [h])
theorem strE_2 {t : Ty} {width : Int} (h : tyB t = true) (h2 : ¬ (1 ≤ width ∧ width ≤ 150)) : strE t width = 2 := (if_pos h).trans (if_neg h2)
theorem strE_3 {t : Ty} {width : Int} (h : tyB t = true) (h2 : 1 ≤ width ∧ width ≤ 150) : strE t width = seamE (facP t) width := (if_pos h).trans (if_pos h2)
theorem tyB_fc {t : Ty} (h : tyB t = true) : fcB (facP t) = true := by
  unfold tyB at h
  rw [Bool.and_eq_true] at h
  exact (faceE_yes h.2).2.2

def cutE (t : Ty) (width : Int) : Int := if tyB t = true then if 1 ≤ width ∧ width ≤ 150 then 0 else 2 else 101
theorem cutE_1 {t : Ty} {width : Int} (h : tyB t = false) : cutE t width = 101 := if_neg (by simp [h])
theorem cutE_2 {t : Ty} {width : Int} (h : tyB t = true) (h2 : ¬ (1 ≤ width ∧ width ≤ 150)) : cutE t width = 2 := (if_pos h).trans (if_neg h2)
theorem cutE_3 {t : Ty} {width : Int} (h : tyB t = true) (h2 : 1 ≤ width ∧ width ≤ 150) : cutE t width = 0 := (if_pos h).trans (if_pos h2)

set_option maxHeartbeats 1000000 in
set_option maxRecDepth 100000 in
theorem cuttable_calls (t : Ty) (width : Int) (w : World) (hg : Gl w) :
    Calls Tryz.prog 32 #[.agg #[.int .i64 t.code, .int .i64 t.grade, .int .i64 t.frm, .int .i64 t.to, .string (SB t.text)], .int .i64 width] w fun e w' => e = .returned (.int .i64 (cutE t width)) ∧ Below w.heap.size w w' := by
  have hb0 := below_alloc w (.cells #[.int .i64 t.code, .int .i64 t.grade, .int .i64 t.frm, .int .i64 t.to, .string (SB t.text)] 26)
  have HT := hid (TyAt.new w t)
  have HB := hid hb0
  have HG := hid (hg.below hb0)
  clear hb0 hg
  go_enter Tryz.func32, Tryz.ntmps32
  go_upto_region 1 with (fail)
  change Code.wp _ _ _ _ (w.alloc (.cells #[.int .i64 t.code, .int .i64 t.grade, .int .i64 t.frm, .int .i64 t.to, .string (SB t.text)] 26))
  generalize w.alloc (.cells #[.int .i64 t.code, .int .i64 t.grade, .int .i64 t.frm, .int .i64 t.to, .string (SB t.text)] 26) = W at *
  obtain ⟨s0, s1, s2, s3, s4⟩ := (unhid HT).cells
  go_wp2_with fail
  refine (validType_calls t W (unhid HG)).mono ?_
  rintro e w1 ⟨rfl, hb⟩
  have HB := hid ((unhid HB).trans (hb.mono (unhid HB).size))
  clear hb s0 s1 s2 s3 s4
  cases htb : tyB t with
  | false =>
    have HX := hid (cutE_1 (width := width) htb)
    clear htb
    go_wp2_with fail
    go_ret
    exact ⟨reti (unhid HX).symm, unhid HB⟩
  | true =>
    by_cases hw : 1 ≤ width ∧ width ≤ 150
    · have HX := hid (cutE_3 htb hw)
      have d : decide (1 ≤ width ∧ width ≤ 150) = true := decide_eq_true hw
      clear hw htb
      go_wp2_with (go_at_call 30; refine (wwithin_calls _ _ _ _).mono ?_; rintro e w' ⟨rfl, rfl⟩)
      go_ret
      exact ⟨reti (unhid HX).symm, unhid HB⟩
    · have HX := hid (cutE_2 htb hw)
      have d : decide (1 ≤ width ∧ width ≤ 150) = false := decide_eq_false hw
      clear hw htb
      go_wp2_with (go_at_call 30; refine (wwithin_calls _ _ _ _).mono ?_; rintro e w' ⟨rfl, rfl⟩)
      go_ret
      exact ⟨reti (unhid HX).symm, unhid HB⟩

set_option maxHeartbeats 4000000 in
set_option maxRecDepth 100000 in
theorem strips_calls (t : Ty) (width : Int) (w : World) (hg : Gl w) (ht : tyB t = true) (hw : 1 ≤ width ∧ width ≤ 150) :
    Calls Tryz.prog 33 #[.agg #[.int .i64 t.code, .int .i64 t.grade, .int .i64 t.frm, .int .i64 t.to, .string (SB t.text)], .int .i64 width] w (strR t width w) := by
  obtain ⟨i0, hi, hz0, hz1, hz2⟩ := info_partsd info_i64d
  have hb0 := below_alloc w (.cells #[.int .i64 t.code, .int .i64 t.grade, .int .i64 t.frm, .int .i64 t.to, .string (SB t.text)] 26)
  have HT := hid (TyAt.new w t)
  have HB := hid hb0
  have HG := hid (hg.below hb0)
  have hf := tyB_fc ht
  have HSE := hid (fun (B1 : Option Addr) (k1 : Nat) (W : World) h => seams_calls (facP t) B1 k1 width W h hf)
  have HEX := hid (fun (B1 : Option Addr) (k1 : Nat) (W : World) h => pextent_calls (facP t) B1 k1 W h)
  rw [extR_yes hf] at HEX
  have HS3 := hid (strE_3 ht hw)
  have HIN := hid (seamL_in hf width)
  have hln := seamL_len (facP t) width hf
  obtain ⟨z0, z1⟩ := size_bounds hf
  have HCO := hid (show colsL t width = seamL (facP t) width ++ [(facP t).size] from rfl)
  have HY := hid (fun (h : strE t width = 0) (w' : World) (A : Option Addr) (c : Nat) hb hr => strR_yes (t := t) (width := width) (w := w) (w' := w') (A := A) (c := c) h hb hr)
  have HN := hid (fun (n : Int) (h : strE t width = n) (hn : n ≠ 0) (w' : World) hb => strR_no (t := t) (width := width) (n := n) (w := w) (w' := w') h hn hb)
  clear hb0 hg hf ht hw
  go_enter Tryz.func33, Tryz.ntmps33
  go_upto_region 1 with (fail)
  change Code.wp _ _ _ _ (w.alloc (.cells #[.int .i64 t.code, .int .i64 t.grade, .int .i64 t.frm, .int .i64 t.to, .string (SB t.text)] 26))
  generalize w.alloc (.cells #[.int .i64 t.code, .int .i64 t.grade, .int .i64 t.frm, .int .i64 t.to, .string (SB t.text)] 26) = W at *
  obtain ⟨s0, s1, s2, s3, s4⟩ := (unhid HT).cells
  go_wp2_with fail
  refine (faceOf_calls t W (unhid HG)).mono ?_
  rintro e w1 ⟨hb, A1, c1, rfl, hi1⟩
  have HB := hid ((unhid HB).trans (hb.mono (unhid HB).size))
  have HI := hid hi1
  clear hb hi1 s0 s1 s2 s3 s4 HT HG
  obtain ⟨g, hgd⟩ : ∃ x, x = facP t := ⟨_, rfl⟩
  rw [← hgd] at HI HSE HEX HS3 HIN hln z0 z1 HCO ⊢
  clear hgd
  go_upto_region 2 with (fail)
  change Code.wp _ _ _ _ (w1.alloc (.cells #[.int .i64 g.shape, .int .i64 g.size, .int .i64 g.height, .slice A1 g.items.length c1] 60))
  have hb1 := below_alloc w1 (.cells #[.int .i64 g.shape, .int .i64 g.size, .int .i64 g.height, .slice A1 g.items.length c1] 60)
  have HB := hid ((unhid HB).trans (hb1.mono (unhid HB).size))
  have HE := hid (FaceAt.new w1 c1 (unhid HI))
  generalize w1.alloc (.cells #[.int .i64 g.shape, .int .i64 g.size, .int .i64 g.height, .slice A1 g.items.length c1] 60) = w2 at *
  generalize w1.heap.size = E at *
  clear hb1 HI
  obtain ⟨e0, e1, e2, e3⟩ := (unhid HE).cells
  go_wp2_with fail
  refine ((unhid HSE) A1 c1 w2 (unhid HE).ok).mono ?_
  rintro e w3 ⟨hb, A2, c2, rfl, hown⟩
  have HBq := hid (unhid HB)
  have HB := hid ((unhid HB).trans (hb.mono (unhid HB).size))
  have HE := hid ((unhid HE).below hb)
  have HBW2 := hid (unhid HBq)
  have HOW := hid hown
  have HB2 := hid hb
  clear hb hown e0 e1 e2 e3 HSE
  obtain ⟨L, hL⟩ : ∃ x, x = seamL g width := ⟨_, rfl⟩
  rw [← hL] at HOW HIN hln HCO ⊢
  obtain ⟨er, her⟩ : ∃ x, x = seamE g width := ⟨_, rfl⟩
  rw [← her] at HS3 ⊢
  clear hL her
  by_cases h0 : er = 0
  rotate_left
  · have d : (er != 0) = true := by simp [h0]
    have H0 := hid h0
    clear h0
    go_wp2_with fail
    go_ret2
    exact (unhid HN) er (unhid HS3) (unhid H0) _ (unhid HB)
  · subst h0
    obtain ⟨e0, e1, e2, e3⟩ := (unhid HE).cells
    go_wp2_with fail
    refine ((unhid HEX) A1 c1 w3 (unhid HE).ok).mono ?_
    rintro e w4 ⟨rfl, hb⟩
    have HB := hid ((unhid HB).trans (hb.mono (unhid HB).size))
    have HOW := hid (own_below (unhid HOW) hb)
    have HB2 := hid ((unhid HB2).trans (hb.mono (unhid HB2).size))
    clear hb e0 e1 e2 e3 HE HEX
    have HCI := hid (show ∀ x ∈ L ++ [g.size], 0 ≤ x ∧ x ≤ 200 from fun x hx => by
      rcases List.mem_append.1 hx with hx | hx
      · exact (unhid HIN) x hx
      · rw [List.mem_singleton.1 hx]; omega)
    go_wp2_with (at_builtin; refine wpList_append_own _ rfl _ _ 34 rfl w2.heap.size 3 i0 (.int .i64 0) 1 8 Tryz.underlying34 hi hz0 hz1 hz2 rfl (by decide) _ _ _ rfl ((unhid HOW).alloc _) ⟨w4.heap.size, 0, none⟩ 1 1 [.int .i64 g.size] rfl rfl (by exact World.news_of_block (cs := #[.int .i64 g.size]) (t := 3) (fr := (0, 0)) (by simpa using heap_alloc_new w4 (.cells #[.int .i64 g.size] 3))) ?k2 ?k3 ?k4 ?k5 ?_)
    case k2 => first | rfl | (intro u hu; simp at hu; subst hu; rfl)
    case k3 => unfold maxLen; omega
    case k4 => omega
    case k5 => have := (unhid HB2).size; simp; omega
    intro v' w5 hown5 hg5 _
    have hb5 := Below.grown ((unhid HB2).alloc (unhid HB2).size (.cells #[.int .i64 g.size] 3)) hg5 (by have := (unhid HB2).size; simp; omega) (fun q hq => by
      rcases Nat.lt_or_ge q w2.heap.size with h | h
      · exact absurd hq (own_ne (unhid HOW) (Or.inl h))
      · exact h)
    have HB5 := hid ((unhid HBW2).trans (hb5.mono (unhid HBW2).size))
    obtain ⟨A5, c5, rfl, hrd5, -⟩ := own_slice hown5
    have HRC := hid (show Rd w5 A5 (ints (L ++ [g.size])) from by simpa [ints] using hrd5)
    have HCL := hid (show (L ++ [g.size]).length = L.length + 1 by simp)
    obtain ⟨cols, hcols⟩ : ∃ x, x = L ++ [g.size] := ⟨_, rfl⟩
    rw [← hcols] at HRC HCL HCI HCO
    have hcl : cols.length ≤ 1001 := by have := unhid HCL; omega
    rw [← unhid HCL]
    clear hown5 hg5 hb5 hrd5 hcols HOW HB2 HIN
    go_wp2_with fail
    go_loopw [42, 13, 14] (fun iv ov lv wr => ∃ k : Nat, k ≤ cols.length ∧ iv = .int .i64 k ∧ lv = .int .i64 (lastK cols k) ∧ wr.ownsRow w5.heap.size 3 1 ov k (ints (widK cols k)) ∧ Below w5.heap.size w5 wr) (fun iv _ _ _ => cols.length - (intOf iv).toNat)
    case atStart => exact ⟨0, Nat.zero_le _, rfl, rfl, World.ownsRow_nil _ _ _ _, Below.refl _ _⟩
    case round =>
      obtain ⟨k, hk, rfl, rfl, hown, hbel⟩ := hrel
      have HROW := hid hown
      have HBEL := hid hbel
      obtain ⟨A4, c4, rfl, hrd4, -⟩ := own_slice hown
      have HRD4 := hid hrd4
      clear hown hbel hrd4
      by_cases hlt : k < cols.length
      · obtain ⟨b, off, rfl, hb, hc⟩ := ((unhid HRC).below (unhid HBEL)) (nums_ne hlt)
        have m0 := hc k _ (nums_at hlt)
        have hki : (k : Int) < (cols.length : Int) := by omega
        obtain ⟨x0, x1⟩ := (unhid HCI) (cols.getD k 0) (by rw [getD_at hlt]; exact List.getElem_mem _)
        obtain ⟨y0, y1⟩ := lastK_in (unhid HCI) k (by omega)
        have HW1 := hid (show widK cols (k + 1) = widK cols k ++ [cols.getD k 0 - lastK cols k] from rfl)
        have HL1 := hid (show lastK cols (k + 1) = cols.getD k 0 from rfl)
        obtain ⟨x, hx⟩ : ∃ x, x = cols.getD k 0 := ⟨_, rfl⟩
        rw [← hx] at m0 x0 x1 HW1 HL1
        obtain ⟨y, hy⟩ : ∃ y, y = lastK cols k := ⟨_, rfl⟩
        rw [← hy] at y0 y1 HW1 ⊢
        clear hx hy hb hc HRD4
        go_wp2_with (at_builtin; refine wpList_append_own _ rfl _ _ 34 rfl w5.heap.size 3 i0 (.int .i64 0) 1 8 Tryz.underlying34 hi hz0 hz1 hz2 rfl (by decide) _ _ _ rfl ((unhid HROW).alloc _) ⟨wr.heap.size, 0, none⟩ 1 1 [.int .i64 (x - y)] rfl rfl (by exact World.news_of_block (cs := #[.int .i64 (x - y)]) (t := 3) (fr := (0, 0)) (by simpa using heap_alloc_new wr (.cells #[.int .i64 (x - y)] 3))) ?j2 ?j3 ?j4 ?j5 ?_)
        case j2 => first | rfl | (intro u hu; simp at hu; subst hu; rfl)
        case j3 => unfold maxLen; omega
        case j4 => omega
        case j5 => have := (unhid HBEL).size; simp; omega
        intro v' w6 hown6 hg6 _
        have hb6 := Below.grown ((unhid HBEL).alloc (unhid HBEL).size (.cells #[.int .i64 (x - y)] 3)) hg6 (by have := (unhid HBEL).size; simp; omega) (fun q hq => by
          rcases Nat.lt_or_ge q w5.heap.size with h | h
          · exact absurd hq (own_ne (unhid HROW) (Or.inl h))
          · exact h)
        have HBL6 := hid hb6
        have HO6 := hid hown6
        clear hb6 hown6 hg6
        go_wp2_with fail
        go_roundw
        case rel => exact ⟨k + 1, by omega, by go_num, by rw [unhid HL1], by rw [unhid HW1]; simpa [ints] using unhid HO6, unhid HBL6⟩
        case measure => simp [intOf]; omega
      · obtain rfl : k = cols.length := by omega
        go_wp2_with fail
        go_ret2
        have h := (unhid HY) (unhid HS3) wr A4 c4 ((unhid HB5).trans ((unhid HBEL).mono (unhid HB5).size))
        rw [unhid HCO] at h
        exact h (unhid HRD4)

/-- Strips of package works. -/
theorem cutE_no {t : Ty} {width : Int} (h : cutE t width ≠ 0) : strE t width = cutE t width := by
  unfold strE cutE at *
  by_cases h1 : tyB t = true
  · rw [if_pos h1] at h ⊢
    by_cases h2 : 1 ≤ width ∧ width ≤ 150
    · rw [if_pos h2] at h; exact absurd rfl h
    · rw [if_neg h2, if_pos h1, if_neg h2]
  · rw [if_neg h1, if_neg h1]
theorem cutE_yes {t : Ty} {width : Int} (h : cutE t width = 0) : tyB t = true ∧ 1 ≤ width ∧ width ≤ 150 := by
  unfold cutE at h
  by_cases h1 : tyB t = true
  · rw [if_pos h1] at h
    by_cases h2 : 1 ≤ width ∧ width ≤ 150
    · exact ⟨h1, h2⟩
    · rw [if_neg h2] at h; cases h
  · rw [if_neg h1] at h; cases h

set_option maxHeartbeats 2000000 in
set_option maxRecDepth 100000 in
theorem wstrips_calls (t : Ty) (width : Int) (w : World) (hg : Gl w) :
    Calls Tryz.prog 20 #[.agg #[.int .i64 t.code, .int .i64 t.grade, .int .i64 t.frm, .int .i64 t.to, .string (SB t.text)], .int .i64 width] w (strR t width w) := by
  have hb0 := below_alloc w (.cells #[.int .i64 t.code, .int .i64 t.grade, .int .i64 t.frm, .int .i64 t.to, .string (SB t.text)] 26)
  have HT := hid (TyAt.new w t)
  have HB := hid hb0
  have HG := hid (hg.below hb0)
  have HN := hid (fun (n : Int) (h : strE t width = n) (hn : n ≠ 0) (w' : World) hb => strR_no (t := t) (width := width) (n := n) (w := w) (w' := w') h hn hb)
  have HCN := hid (fun h => cutE_no (t := t) (width := width) h)
  have HCY := hid (fun h => cutE_yes (t := t) (width := width) h)
  have HCU := hid (fun W h => cuttable_calls t width W h)
  have HSP := hid (fun W h1 h2 h3 => strips_calls t width W h1 h2 h3)
  clear hb0 hg
  go_enter Tryz.func20, Tryz.ntmps20
  go_upto_region 1 with (fail)
  change Code.wp _ _ _ _ (w.alloc (.cells #[.int .i64 t.code, .int .i64 t.grade, .int .i64 t.frm, .int .i64 t.to, .string (SB t.text)] 26))
  generalize w.alloc (.cells #[.int .i64 t.code, .int .i64 t.grade, .int .i64 t.frm, .int .i64 t.to, .string (SB t.text)] 26) = W at *
  obtain ⟨s0, s1, s2, s3, s4⟩ := (unhid HT).cells
  go_wp2_with fail
  refine ((unhid HCU) W (unhid HG)).mono ?_
  rintro e w1 ⟨rfl, hb⟩
  have HT := hid ((unhid HT).below hb)
  have HG := hid ((unhid HG).below hb)
  have HB := hid ((unhid HB).trans (hb.mono (unhid HB).size))
  clear hb s0 s1 s2 s3 s4 HCU
  obtain ⟨er, her⟩ : ∃ x, x = cutE t width := ⟨_, rfl⟩
  rw [← her] at HCN HCY ⊢
  clear her
  by_cases h0 : er = 0
  rotate_left
  · have d : (er != 0) = true := by simp [h0]
    have HX := hid ((unhid HN) er ((unhid HCN) h0) h0)
    clear h0
    go_wp2_with fail
    go_ret2
    exact (unhid HX) _ (unhid HB)
  · subst h0
    obtain ⟨h1, h2⟩ := (unhid HCY) rfl
    have HS := hid (fun W h => (unhid HSP) W h h1 h2)
    clear h1 h2 HSP
    obtain ⟨s0, s1, s2, s3, s4⟩ := (unhid HT).cells
    go_wp2_with fail
    refine ((unhid HS) w1 (unhid HG)).mono ?_
    rintro e w2 ⟨hb, A, c, rfl, hr⟩
    have HB := hid ((unhid HB).trans (hb.mono (unhid HB).size))
    have HR := hid hr
    clear hb hr s0 s1 s2 s3 s4
    go_wp2_with fail
    go_ret2
    exact ⟨unhid HB, A, c, rfl, unhid HR⟩

end Go.Proofs.YtbnnnjkfhffekaaGreatDoor
