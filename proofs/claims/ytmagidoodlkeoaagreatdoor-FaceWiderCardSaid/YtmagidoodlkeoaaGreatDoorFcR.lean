/-
  The program's rough reading of a valid face's text is the face. No program in sight.
-/
import Derived.Test.YtmagidoodlkeoaaGreatDoorFcQ
set_option linter.unusedSimpArgs false
set_option linter.unusedVariables false
namespace Go.Proofs.YtmagidoodlkeoaaGreatDoor
open Go.Lib

set_option maxRecDepth 100000 in
theorem colour_words : ∀ c : Fin 9, 32 ∉ colourW.getD c.val [] ∧ 34 ∉ colourW.getD c.val [] ∧ 58 ∉ colourW.getD c.val [] ∧ 59 ∉ colourW.getD c.val [] ∧ idxW colourW (colourW.getD c.val []) = (c.val : Int) ∧ colourW.getD c.val [] ≠ [97, 116] := by decide
set_option maxRecDepth 100000 in
theorem kind_words : ∀ c : Fin 7, 32 ∉ kindW.getD c.val [] ∧ 34 ∉ kindW.getD c.val [] ∧ 58 ∉ kindW.getD c.val [] ∧ 59 ∉ kindW.getD c.val [] ∧ idxW kindW (kindW.getD c.val []) = (c.val : Int) := by decide
set_option maxRecDepth 100000 in
theorem shape_words : ∀ c : Fin 7, 32 ∉ shapeW.getD c.val [] ∧ 58 ∉ shapeW.getD c.val [] ∧ idxW shapeW (shapeW.getD c.val []) = (c.val : Int) := by decide
theorem colour_word {c : Int} (h0 : 1 ≤ c) (h1 : c ≤ 8) : ∃ w, colourW[c.toNat]?.getD [] = w ∧ 32 ∉ w ∧ 34 ∉ w ∧ 58 ∉ w ∧ 59 ∉ w ∧ idxW colourW w = c := by
  obtain ⟨a, b, d, e, f, -⟩ := colour_words ⟨c.toNat, by omega⟩
  simp only [List.getD_eq_getElem?_getD] at a b d e f
  exact ⟨_, rfl, a, b, d, e, by rw [f]; simp; omega⟩
theorem isL_free {l : List UInt8} (h : l.all (fun c => isL c.toNat) = true) : 34 ∉ l ∧ 58 ∉ l ∧ 59 ∉ l := by
  rw [List.all_eq_true] at h
  refine ⟨fun e => ?_, fun e => ?_, fun e => ?_⟩ <;> · have := h _ e; revert this; decide
theorem itoa_word {n : Int} (h0 : 0 ≤ n) (h1 : n ≤ 200) : ∃ w, itoa n = w ∧ 32 ∉ w ∧ 34 ∉ w ∧ 58 ∉ w ∧ 59 ∉ w ∧ w ≠ [97, 116] ∧ numP w = n := by
  obtain ⟨a, b, c, d, e⟩ := itoa_free h0 h1
  exact ⟨_, rfl, a, b, c, d, e, numP_itoa h0 h1⟩
theorem readWs_simple {k c : Int} {kw cw : List UInt8} {text : List UInt8} {r : List (List UInt8)} (h1 : idxW kindW kw = k) (h2 : idxW colourW cw = c) : readWs text (kw :: cw :: r) = readNs k c text r := by
  unfold readWs
  rw [if_neg (by simp)]
  simp [h1, h2]
theorem split_words (x : List UInt8) (ws : List (List UInt8)) (h : ∀ w ∈ x :: ws, 32 ∉ w) : split (join (x :: ws) [32]) [32] = x :: ws := split_join x ws h

set_option maxRecDepth 100000 in
theorem readIt_fmt {x : It} (h : itB x = true) : readIt (fmtIt x) = some x := by
  obtain ⟨k, c, l, w, a, b, t⟩ := x
  simp only [itB, Bool.and_eq_true, decide_eq_true_eq] at h
  obtain ⟨⟨⟨⟨⟨⟨hk, hc⟩, hl⟩, hw⟩, ha⟩, hb⟩, ht⟩ := h
  obtain ⟨cw, ec, c1, c2, c3, c4, c5⟩ := colour_word hc.1 hc.2
  have hk' : k = 1 ∨ k = 2 ∨ k = 3 ∨ k = 4 ∨ k = 5 ∨ k = 6 := by omega
  rcases hk' with rfl | rfl | rfl | rfl | rfl | rfl
  · simp [useB] at hl hw ha hb ht
    subst hl hw ha hb ht
    have e : fmtIt ⟨1, c, 0, 0, 0, 0, []⟩ = join [[102, 105, 101, 108, 100], cw] [32] := by simp [fmtIt, wordsW, headW, ec, kindW]
    rw [e, readIt, if_neg (by simp [join_cons, joinTail, hasPrefix]), split_words _ _ (by simp [c1]), readWs_simple (k := 1) (by decide) c5]
    simp [readNs]
  · simp [useB] at hl hw ha hb ht
    subst hl hw hb ht
    obtain ⟨aw, ea, a1, a2, a3, a4, a5, a6⟩ := itoa_word (by omega) ha.2
    have e : fmtIt ⟨2, c, 0, 0, a, 0, []⟩ = join [[114, 105, 109], cw, aw] [32] := by simp [fmtIt, wordsW, headW, ec, ea, kindW]
    rw [e, readIt, if_neg (by simp [join_cons, joinTail, hasPrefix]), split_words _ _ (by simp [c1, a1]), readWs_simple (k := 2) (by decide) c5]
    simp [readNs, a6]
  · simp [useB] at hl hw ha hb ht
    subst ht
    obtain ⟨aw, ea, a1, a2, a3, a4, a5, a6⟩ := itoa_word (by omega) ha.2
    obtain ⟨bw, eb, b1, b2, b3, b4, b5, b6⟩ := itoa_word (by omega) hb.2
    obtain ⟨lw, el, l1, l2, l3, l4, l5, l6⟩ := itoa_word hl.1 hl.2
    obtain ⟨ww, ew, w1, w2, w3, w4, w5, w6⟩ := itoa_word hw.1 hw.2
    have e : fmtIt ⟨3, c, l, w, a, b, []⟩ = join [[98, 111, 120], cw, aw, bw, [97, 116], lw, ww] [32] := by simp [fmtIt, wordsW, headW, atW, ec, ea, eb, el, ew, kindW]
    rw [e, readIt, if_neg (by simp [join_cons, joinTail, hasPrefix]), split_words _ _ (by simp [c1, a1, b1, l1, w1]), readWs_simple (k := 3) (by decide) c5]
    simp [readNs, a6, b6, l6, w6]
  · simp [useB] at hl hw ha hb ht
    subst hb ht
    obtain ⟨aw, ea, a1, a2, a3, a4, a5, a6⟩ := itoa_word (by omega) ha.2
    obtain ⟨lw, el, l1, l2, l3, l4, l5, l6⟩ := itoa_word hl.1 hl.2
    obtain ⟨ww, ew, w1, w2, w3, w4, w5, w6⟩ := itoa_word hw.1 hw.2
    have e : fmtIt ⟨4, c, l, w, a, 0, []⟩ = join [[100, 105, 115, 99], cw, aw, [97, 116], lw, ww] [32] := by simp [fmtIt, wordsW, headW, atW, ec, ea, el, ew, kindW]
    rw [e, readIt, if_neg (by simp [join_cons, joinTail, hasPrefix]), split_words _ _ (by simp [c1, a1, l1, w1]), readWs_simple (k := 4) (by decide) c5]
    simp [readNs, a6, l6, w6]
  · simp [useB] at hl hw ha hb ht
    subst hl hw hb ht
    obtain ⟨aw, ea, a1, a2, a3, a4, a5, a6⟩ := itoa_word (by omega) ha.2
    have e : fmtIt ⟨5, c, 0, 0, a, 0, []⟩ = join [[115, 108, 97, 115, 104], cw, aw] [32] := by simp [fmtIt, wordsW, headW, ec, ea, kindW]
    rw [e, readIt, if_neg (by simp [join_cons, joinTail, hasPrefix]), split_words _ _ (by simp [c1, a1]), readWs_simple (k := 5) (by decide) c5]
    simp [readNs, a6]
  · simp [useB] at hl hw ha hb ht
    subst hb
    simp only [spellB, Bool.and_eq_true] at ht
    obtain ⟨t1, t2, t3⟩ := isL_free ht.2
    obtain ⟨aw, ea, a1, a2, a3, a4, a5, a6⟩ := itoa_word (by omega) ha.2
    obtain ⟨lw, el, l1, l2, l3, l4, l5, l6⟩ := itoa_word hl.1 hl.2
    obtain ⟨ww, ew, w1, w2, w3, w4, w5, w6⟩ := itoa_word hw.1 hw.2
    have e : fmtIt ⟨6, c, l, w, a, 0, t⟩ = join [[116, 101, 120, 116], cw, aw] [32] ++ ([32, 34] ++ (t ++ ([34] ++ ([32] ++ join [[97, 116], lw, ww] [32])))) := by simp [fmtIt, headW, atW, ec, ea, el, ew, kindW]
    rw [e, readIt, if_pos (by simp [join_cons, joinTail, hasPrefix]), cut_free (d := 34) 1 rfl (by simp [join_cons, joinTail, c2, a2])]
    dsimp only
    rw [cut_free (d := 34) 0 rfl (by simpa using t1)]
    dsimp only
    have e2 : join [[116, 101, 120, 116], cw, aw] [32] ++ ([32] ++ join [[97, 116], lw, ww] [32]) = join [[116, 101, 120, 116], cw, aw, [97, 116], lw, ww] [32] := by simp [join_cons, joinTail]
    rw [e2, if_pos (by simp), split_words _ _ (by simp [c1, a1, l1, w1]), readWs_simple (k := 6) (by decide) c5]
    simp [readNs, a6, l6, w6]
/-- No item's text has a semicolon. -/
theorem fmtIt_free {x : It} (h : itB x = true) : 59 ∉ fmtIt x := by
  obtain ⟨k, c, l, w, a, b, t⟩ := x
  simp only [itB, Bool.and_eq_true, decide_eq_true_eq] at h
  obtain ⟨⟨⟨⟨⟨⟨hk, hc⟩, hl⟩, hw⟩, ha⟩, hb⟩, ht⟩ := h
  obtain ⟨cw, ec, c1, c2, c3, c4, c5⟩ := colour_word hc.1 hc.2
  have hk' : k = 1 ∨ k = 2 ∨ k = 3 ∨ k = 4 ∨ k = 5 ∨ k = 6 := by omega
  rcases hk' with rfl | rfl | rfl | rfl | rfl | rfl
  all_goals simp [useB] at hl hw ha hb ht
  · simp [fmtIt, wordsW, headW, ec, kindW, join_cons, joinTail, c4]
  · obtain ⟨aw, ea, a1, a2, a3, a4, a5, a6⟩ := itoa_word (by omega) ha.2
    simp [fmtIt, wordsW, headW, ec, ea, kindW, join_cons, joinTail, c4, a4]
  · obtain ⟨aw, ea, a1, a2, a3, a4, a5, a6⟩ := itoa_word (by omega) ha.2
    obtain ⟨bw, eb, b1, b2, b3, b4, b5, b6⟩ := itoa_word (by omega) hb.2
    obtain ⟨lw, el, l1, l2, l3, l4, l5, l6⟩ := itoa_word hl.1 hl.2
    obtain ⟨ww, ew, w1, w2, w3, w4, w5, w6⟩ := itoa_word hw.1 hw.2
    simp [fmtIt, wordsW, headW, atW, ec, ea, eb, el, ew, kindW, join_cons, joinTail, c4, a4, b4, l4, w4]
  · obtain ⟨aw, ea, a1, a2, a3, a4, a5, a6⟩ := itoa_word (by omega) ha.2
    obtain ⟨lw, el, l1, l2, l3, l4, l5, l6⟩ := itoa_word hl.1 hl.2
    obtain ⟨ww, ew, w1, w2, w3, w4, w5, w6⟩ := itoa_word hw.1 hw.2
    simp [fmtIt, wordsW, headW, atW, ec, ea, el, ew, kindW, join_cons, joinTail, c4, a4, l4, w4]
  · obtain ⟨aw, ea, a1, a2, a3, a4, a5, a6⟩ := itoa_word (by omega) ha.2
    simp [fmtIt, wordsW, headW, ec, ea, kindW, join_cons, joinTail, c4, a4]
  · simp only [spellB, Bool.and_eq_true] at ht
    obtain ⟨t1, t2, t3⟩ := isL_free ht.2
    obtain ⟨aw, ea, a1, a2, a3, a4, a5, a6⟩ := itoa_word (by omega) ha.2
    obtain ⟨lw, el, l1, l2, l3, l4, l5, l6⟩ := itoa_word hl.1 hl.2
    obtain ⟨ww, ew, w1, w2, w3, w4, w5, w6⟩ := itoa_word hw.1 hw.2
    simp [fmtIt, headW, atW, ec, ea, el, ew, kindW, join_cons, joinTail, c4, a4, l4, w4, t3]
theorem readAll_fmt {l : List It} (h : l.all itB = true) : readAll (l.map fmtIt) = some l := by
  induction l with
  | nil => rfl
  | cons x l ih =>
    simp only [List.all_cons, Bool.and_eq_true] at h
    simp [readAll, readIt_fmt h.1, ih h.2]
theorem headF_words {f : Fc} (h : fcB f = true) : (∀ w ∈ headF f, 32 ∉ w ∧ 58 ∉ w) ∧ idxW shapeW ((headF f).getD 0 []) = f.shape ∧ (if 1 < (headF f).length then numP ((headF f).getD 1 []) else 0) = f.size ∧ (if 2 < (headF f).length then numP ((headF f).getD 2 []) else 0) = f.height := by
  obtain ⟨s, z, g, l⟩ := f
  simp only [fcB, Bool.and_eq_true, decide_eq_true_eq] at h
  obtain ⟨⟨⟨⟨hs, hz⟩, -⟩, hg⟩, -⟩ := h
  obtain ⟨s1, s2, s3⟩ := shape_words ⟨s.toNat, by omega⟩
  obtain ⟨zw, ez, z1, z2, z3, z4, z5, z6⟩ := itoa_word (show (0 : Int) ≤ z by omega) hz.2
  have s3' : idxW shapeW (shapeW.getD s.toNat []) = s := by rw [s3]; simp; omega
  by_cases e : s = 2
  · rw [if_pos e] at hg
    simp only [decide_eq_true_eq] at hg
    obtain ⟨gw, eg, g1, g2, g3, g4, g5, g6⟩ := itoa_word (show (0 : Int) ≤ g by omega) hg.2
    refine ⟨?_, s3', ?_, ?_⟩
    · intro w hw
      simp only [headF, if_pos e, ez, eg, List.cons_append, List.nil_append, List.mem_cons, List.not_mem_nil, or_false] at hw
      rcases hw with rfl | rfl | rfl
      · exact ⟨s1, s2⟩
      · exact ⟨z1, z3⟩
      · exact ⟨g1, g3⟩
    · simp [headF, e, ez, z6]
    · simp [headF, e, eg, g6]
  · rw [if_neg e] at hg
    simp only [decide_eq_true_eq] at hg
    refine ⟨?_, s3', ?_, ?_⟩
    · intro w hw
      simp only [headF, if_neg e, ez, List.cons_append, List.nil_append, List.append_nil, List.mem_cons, List.not_mem_nil, or_false] at hw
      rcases hw with rfl | rfl
      · exact ⟨s1, s2⟩
      · exact ⟨z1, z3⟩
    · simp [headF, e, ez, z6]
    · simp [headF, e, hg]
theorem join_free {d : UInt8} (x : List UInt8) (ws : List (List UInt8)) (h : ∀ w ∈ x :: ws, d ∉ w) (hd : d ≠ 32) : d ∉ join (x :: ws) [32] := by
  rw [join_cons]
  simp only [joinTail, List.mem_append, List.mem_flatten, List.mem_map]
  rintro (h1 | ⟨_, ⟨w, hw, rfl⟩, h2⟩)
  · exact h x (by simp) h1
  · simp only [List.mem_append, List.mem_cons, List.not_mem_nil, or_false] at h2
    rcases h2 with h2 | h2
    · exact hd h2
    · exact h w (by simp [hw]) h2
theorem readF_fmt {f : Fc} (h : fcB f = true) : readF (fmtF f) = some f := by
  obtain ⟨hw, h0, h1, h2⟩ := headF_words h
  have hl : f.items.all itB = true := by simp only [fcB, Bool.and_eq_true] at h; exact h.2
  obtain ⟨x, ws, hx⟩ : ∃ x ws, headF f = x :: ws := ⟨_, _, rfl⟩
  have hs : split (join (headF f) [32]) [32] = headF f := by rw [hx]; exact split_words _ _ (fun w hw' => (hw w (by rw [hx]; exact hw')).1)
  have h58 : 58 ∉ join (headF f) [32] := by rw [hx]; exact join_free _ _ (fun w hw' => (hw w (by rw [hx]; exact hw')).2) (by decide)
  unfold readF fmtF
  by_cases e : f.items = []
  · rw [if_pos e, cut_no (d := 58) (by simp) h58]
    dsimp only
    rw [hs, h0, h1, h2]
    simp [← e]
  · rw [if_neg e, cut_free (d := 58) 0 rfl (by simpa using h58)]
    dsimp only
    rw [hs, h0, h1, h2]
    obtain ⟨y, ys, hy⟩ : ∃ y ys, f.items = y :: ys := List.exists_cons_of_ne_nil e
    have : split (join (f.items.map fmtIt) [59, 32]) [59, 32] = f.items.map fmtIt := by
      rw [hy, List.map_cons]
      refine split_join _ _ ?_
      intro w hw'
      rw [← List.map_cons, List.mem_map] at hw'
      obtain ⟨z, hz, rfl⟩ := hw'
      exact fmtIt_free (List.all_eq_true.1 hl z (by rw [hy]; exact hz))
    rw [this, readAll_fmt hl]
    simp
/-- THE PROGRAM'S PARSE: the face of a text, if the text is a valid face's. -/
def parseP (s : List UInt8) : Option Fc := match readF s with
  | some f => if fcB f && decide (fmtF f = s) then some f else none
  | none => none
theorem parseP_some {s : List UInt8} {f : Fc} : parseP s = some f ↔ fcB f = true ∧ fmtF f = s := by
  unfold parseP
  constructor
  · intro h
    split at h
    · split at h
      · rename_i h2
        injection h with h
        subst h
        simpa using h2
      · cases h
    · cases h
  · rintro ⟨h1, rfl⟩
    rw [readF_fmt h1]
    simp [h1]

end Go.Proofs.YtmagidoodlkeoaaGreatDoor
