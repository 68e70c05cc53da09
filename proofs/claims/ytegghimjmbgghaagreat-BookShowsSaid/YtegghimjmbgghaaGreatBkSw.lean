/-
  clear(s) at records. slices.DeleteFunc at records, with History's first function. History of the program, of a book of fewer than 40 records. Two lists of disputes compared. Two lists of numbers compared. History of the reference. The law BookShows.
-/
import Derived.Test.YtegghimjmbgghaaGreatBkSo
import Derived.Lib.SliceRun
import Derived.Deep.MidRow
import Derived.Test.YtegghimjmbgghaaGreatBkSp2
import Derived.Test.YtegghimjmbgghaaGreatBkFk
import Derived.Test.YtegghimjmbgghaaGreatBkRi
import Derived.Test.YtegghimjmbgghaaGreatBkRm
import Derived.Test.YtegghimjmbgghaaGreatBkMd
import Derived.Test.YtegghimjmbgghaaGreatBkSr
import Derived.Test.YtegghimjmbgghaaGreatBkOs
import Derived.Test.YtegghimjmbgghaaGreatBkX
import Derived.Test.YtegghimjmbgghaaGreatBkN
set_option linter.unusedSimpArgs false
set_option linter.unusedVariables false
namespace Go.Proofs.YtegghimjmbgghaaGreat
open Go.RowKit

theorem take_sameP {α : Type} {l m : List α} {k : Nat} (hl : k < l.length) (hm : k < m.length) (h : l.take k = m.take k) (e : l[k] = m[k]) : l.take (k + 1) = m.take (k + 1) := by
  rw [List.take_succ_eq_append_getElem hl, List.take_succ_eq_append_getElem hm, h, e]


section
open Go.RowKit Go.Shelf Go.Sort

theorem run_clear_k {P : Program} {n : Nat} (w : World) (t e ty : TypeId) (cells : Array Value) (ht : P.underlying t = some (.slice e)) (hv : ∀ w, (zeroValue e).run P w = .ok (.agg cells) w) (h1 : ∀ v ∈ (Builtin.zeroCells cells n).toList, v.oneCell' = true) (b o c : Nat) (hn : 0 < n)
    (hc : ∀ j, j < (Builtin.zeroCells cells n).toList.length → (w.cell? ⟨b, o + j, none⟩).isSome = true) (hf : ∀ j, j < (Builtin.zeroCells cells n).toList.length → w.frozen? ⟨b, o + j, none⟩ = false) :
    (Builtin.clear_ #[t] ty #[.slice (some ⟨b, o, none⟩) n c]).run P w = .ok (.tuple #[]) (w.setCells b o (Builtin.zeroCells cells n).toList) := by
  have hst := run_storeCells_cells (P := P) b o (Builtin.zeroCells cells n).toList 0 w (by simpa using hc) (by simpa using hf) h1
  simp only [Nat.add_zero] at hst
  obtain ⟨m, rfl⟩ : ∃ m, n = m + 1 := ⟨n - 1, by omega⟩
  simp [Builtin.clear_, run_underlying ht, hv, Value.cells, hst]
end

section
open Go.RowKit Go.Shelf Go.Sort

/-- The records of a sign. -/
def keepS (l : List Rc) (s : Int) : List Rc := l.filter fun r => decide (r.sign = s)
theorem keepS_len (l : List Rc) (s : Int) : (keepS l s).length ≤ l.length := List.length_filter_le _ _
theorem keepS_go {l : List Rc} {s : Int} {j : Nat} (hj : j < l.length) (h : l[j].sign = s) : keepS (l.take (j + 1)) s = keepS (l.take j) s ++ [l[j]] := by
  unfold keepS
  rw [List.take_succ_eq_append_getElem hj, List.filter_append]
  simp [h]
theorem keepS_no {l : List Rc} {s : Int} {j : Nat} (hj : j < l.length) (h : l[j].sign ≠ s) : keepS (l.take (j + 1)) s = keepS (l.take j) s := by
  unfold keepS
  rw [List.take_succ_eq_append_getElem hj, List.filter_append]
  simp [h]
theorem keepS_all {l : List Rc} {s : Int} {k : Nat} (h : ∀ j (h : j < l.length), j < k → l[j].sign = s) : keepS (l.take k) s = l.take k := by
  unfold keepS
  rw [List.filter_eq_self]
  intro r hr
  obtain ⟨j, hj, e⟩ := List.getElem_of_mem hr
  rw [List.length_take] at hj
  rw [List.getElem_take] at e
  exact decide_eq_true (e ▸ h j (by omega) (by omega))

theorem zero_one (n : Nat) : ∀ v ∈ (Builtin.zeroCells (rcA rc0) n).toList, v.oneCell' = true := by
  intro v hv
  simp only [Builtin.zeroCells, Array.toList_map, List.mem_map] at hv
  obtain ⟨i, -, rfl⟩ := hv
  have h : i % (rcA rc0).size < 14 := Nat.mod_lt _ (by decide)
  generalize i % (rcA rc0).size = q at h
  match q, h with
  | 0, _ => rfl
  | 1, _ => rfl
  | 2, _ => rfl
  | 3, _ => rfl
  | 4, _ => rfl
  | 5, _ => rfl
  | 6, _ => rfl
  | 7, _ => rfl
  | 8, _ => rfl
  | 9, _ => rfl
  | 10, _ => rfl
  | 11, _ => rfl
  | 12, _ => rfl
  | 13, _ => rfl
structure DlI (w : World) (g cap : Nat) (l : List Rc) (s : Int) (i j : Nat) (dk : List Rc) (wr : World) : Prop where
  ij : i < j ∧ j ≤ l.length
  row : RowG wr g cap dk
  len : dk.length = l.length
  low : dk.take i = keepS (l.take j) s
  high : dk.drop j = l.drop j
  gr : w.grownBy wr (some g)
section
variable {w wr w' : World} {g cap i j : Nat} {l dk : List Rc} {s : Int}
theorem DlI.below (h : DlI w g cap l s i j dk wr) (hb : Below wr.heap.size wr w') : DlI w g cap l s i j dk w' := ⟨h.ij, h.row.below hb, h.len, h.low, h.high, h.gr.trans (grown_of_below hb _)⟩
theorem DlI.at (h : DlI w g cap l s i j dk wr) (hj : j < l.length) (hj2 : j < dk.length) : dk[j] = l[j] := by
  have h1 := congrArg (fun z => z[0]?) h.high
  simpa [List.getElem?_drop, List.getElem?_eq_getElem hj, List.getElem?_eq_getElem hj2] using h1
theorem DlI.skip (h : DlI w g cap l s i j dk wr) (hj : j < l.length) (hs : l[j].sign ≠ s) : DlI w g cap l s i (j + 1) dk wr :=
  ⟨⟨by have := h.ij; omega, hj⟩, h.row, h.len, by rw [keepS_no hj hs]; exact h.low, by
    have := congrArg (List.drop 1) h.high
    rwa [List.drop_drop, List.drop_drop] at this, h.gr⟩
theorem DlI.keep (h : DlI w g cap l s i j dk wr) (hj : j < l.length) (hs : l[j].sign = s) (hr : RowG w' g cap (dk.set i l[j])) (hg : wr.grownBy w' (some g)) : DlI w g cap l s (i + 1) (j + 1) (dk.set i l[j]) w' := by
  have hij := h.ij
  have hln := h.len
  refine ⟨⟨by omega, hj⟩, hr, by rw [List.length_set]; exact hln, ?_, ?_, h.gr.trans hg⟩
  · rw [keepS_go hj hs, ← h.low, List.take_succ_eq_append_getElem (by rw [List.length_set]; omega), List.getElem_set_self, List.take_set_of_le (by omega)]
  · rw [List.drop_set_of_lt (by omega)]
    have := congrArg (List.drop 1) h.high
    rwa [List.drop_drop, List.drop_drop] at this
end

theorem RowG.there {w : World} {g cap i : Nat} {dk : List Rc} (h : RowG w g cap dk) (hi : i < dk.length) : w.there g (i * 14) 14 := by
  obtain ⟨cur, hh, hs, -⟩ := h.blk
  have hle := h.le
  intro j hj
  exact ⟨by rw [cell_of_row w g (i * 14 + j) cur _ _ hh, Array.getElem?_eq_getElem (by omega)]; rfl, by simp [World.frozen?, hh]⟩
theorem size_rec : (Tryz.prog.info? 82).map (·.size) = some 14 := by kernel_rfl
def DlPost (w : World) (base : Nat) (v : Value) (l : List Rc) (s : Int) (e : Ending) (w' : World) : Prop :=
  ∃ u, e = .returned u ∧ w'.ownsRow base 82 14 u (keepS l s).length (recs (keepS l s)) ∧ u.ownBlock = v.ownBlock ∧ w.grownBy w' v.ownBlock

set_option maxHeartbeats 4000000 in
set_option maxRecDepth 100000 in
theorem deleteSign_calls (l : List Rc) (s : Int) (v : Value) (base : Nat) {X : Nat} (w : World) (hown : w.ownsRow base 82 14 v l.length (recs l)) (hX : w.cell? ⟨X, 0, none⟩ = some (.int .i64 s)) (hlt : X < w.heap.size) (hXb : X < base) (hl : l.length ≤ 1000000) :
    Calls Tryz.prog 80 #[v, .func (.func 81) #[] #[.pointer (some ⟨X, 0, none⟩)]] w fun e w' => DlPost w base v l s e w' := by
  obtain ⟨A, c, rfl, hrd, -⟩ := own_slice hown
  have HI := hid (indexSign_calls l s A c w hX hlt hrd hl)
  have HO := hid hown
  have HX := hid (show ∀ W : World, ∀ g, base ≤ g → w.grownBy W (some g) → W.cell? ⟨X, 0, none⟩ = some (.int .i64 s) ∧ X < W.heap.size from fun W g hg hb => ⟨(World.cell?_of_block (hb.block X hlt (fun e => by have := Option.some.inj e; omega))).trans hX, Nat.lt_of_lt_of_le hlt hb.size⟩)
  have HL := hid hl
  clear hown hX hlt hrd hl
  go_enter Tryz.func80, Tryz.ntmps80
  go_wp2_with fail
  refine (unhid HI).mono ?_
  rintro e w2 ⟨k, hF, rfl, hb2⟩
  have HF := hid hF
  have HB2 := hid hb2
  clear hF hb2 HI
  by_cases hk : k < l.length
  · rw [if_pos hk]
    have hne : ((k : Int) == -1) = false := beq_eq_false_iff_ne.2 (by omega)
    obtain ⟨g, cap, hv, hg, hrow⟩ := RowG.of (own_below (unhid HO) (unhid HB2)) (fun e => by rw [e] at hk; simp at hk)
    injection hv with hv1 hv2 hv3
    subst hv1 hv3
    have HBG := hid hg
    have HI0 := hid (⟨⟨Nat.lt_succ_self k, hk⟩, hrow, rfl, by
      have h1 := (unhid HF).2.1
      rw [keepS_no hk ((unhid HF).2.2 hk), keepS_all h1], rfl, grown_of_below (unhid HB2) _⟩ : DlI w g c l s k (k + 1) l w2)
    have hkn : k < 1000000 := Nat.lt_of_lt_of_le hk (unhid HL)
    clear hrow hg hk
    go_wp2_with fail
    go_loopw [5, 6] (fun s5 s6 wr => ∃ (i j : Nat) (dk : List Rc), s5 = .int .i64 i ∧ s6 = .int .i64 j ∧ DlI w g c l s i j dk wr) (fun _ s6 _ => l.length - (intOf s6).toNat)
    case atStart => exact ⟨k, k + 1, l, rfl, by go_num, unhid HI0⟩
    case round =>
      obtain ⟨i, j, dk, rfl, rfl, hi⟩ := hrel
      have HI := hid hi
      clear hi HI0
      have hij : i < j ∧ j ≤ l.length := (unhid HI).ij
      by_cases hlt : j < l.length
      · have hji : (j : Int) < (l.length : Int) := by omega
        have hjn : j < 1000000 := Nat.lt_of_lt_of_le hlt (unhid HL)
        have hjd : j < dk.length := by rw [(unhid HI).len]; exact hlt
        have hid_ : i < dk.length := by omega
        obtain ⟨x, hx⟩ : ∃ x, l[j] = x := ⟨_, rfl⟩
        have hxd : dk[j] = x := ((unhid HI).at hlt hjd).trans hx
        obtain ⟨b, off, hAe, hbl, hc⟩ := (unhid HI).row.rd (recs_ne hjd)
        injection hAe with hAe
        injection hAe with hb1 hb2 hb3
        subst hb1 hb2
        obtain ⟨m0, m1, m2, m3, m4, m5, m6, m7, m8, m9, m10, m11, m12, m13⟩ := recs_cells hc hjd hxd
        simp only [Nat.zero_add] at m0 m1 m2 m3 m4 m5 m6 m7 m8 m9 m10 m11 m12 m13
        have HXX := hid hx
        clear hx hxd hc hbl
        go_upto_region 8 with (fail)
        change Code.wp _ _ _ _ (wr.alloc (.cells (rcA x) 82))
        have hb0 := below_alloc wr (.cells (rcA x) 82)
        have HXA := hid (RcAt.new wr x)
        have HI := hid ((unhid HI).below hb0)
        clear m0 m1 m2 m3 m4 m5 m6 m7 m8 m9 m10 m11 m12 m13 hb0
        obtain ⟨Y, hY⟩ : ∃ Y, Y = wr.heap.size := ⟨_, rfl⟩
        rw [← hY] at HXA ⊢
        clear hY
        generalize wr.alloc (.cells (rcA x) 82) = W1 at *
        obtain ⟨c0, c1, c2, c3, c4, c5⟩ := (unhid HXA).cells
        obtain ⟨e0, e1, e2, e3, e4, e5, e6, e7⟩ := (unhid HXA).seen8
        have HC := hid (signOf_calls x s W1 ((unhid HX) _ g (unhid HBG) (unhid HI).gr).1 ((unhid HX) _ g (unhid HBG) (unhid HI).gr).2)
        go_wp2_with fail
        refine (unhid HC).mono ?_
        rintro e w5 ⟨rfl, hb5⟩
        have HXA := hid ((unhid HXA).below hb5 (unhid HXA).lt)
        have HI := hid ((unhid HI).below hb5)
        clear hb5 HC c0 c1 c2 c3 c4 c5 e0 e1 e2 e3 e4 e5 e6 e7
        by_cases hs : x.sign = s
        · have hse : (x.sign != s) = false := by simpa using hs
          obtain ⟨c0, c1, c2, c3, c4, c5⟩ := (unhid HXA).cells
          obtain ⟨e0, e1, e2, e3, e4, e5, e6, e7⟩ := (unhid HXA).seen8
          obtain ⟨-, hrow, hgr⟩ := (unhid HI).row.store hid_ x
          have HN := hid ((unhid HI).keep hlt ((unhid HXX).symm ▸ hs) ((unhid HXX).symm ▸ hrow) hgr)
          have HT := hid ((unhid HI).row.there hid_)
          clear hrow hgr hs
          have hfz : ∀ t, w5.frozen? ⟨g, t, none⟩ = false := by
            obtain ⟨cur, hh, -, -⟩ := (unhid HI).row.blk
            intro t
            simp [World.frozen?, hh]
          obtain ⟨y, hy⟩ : ∃ y, dk[i] = y := ⟨_, rfl⟩
          obtain ⟨b, off, hAe, hbl, hc⟩ := (unhid HI).row.rd (recs_ne hid_)
          injection hAe with hAe
          injection hAe with hb1 hb2 hb3
          subst hb1 hb2
          obtain ⟨m0, m1, m2, m3, m4, m5, m6, m7, m8, m9, m10, m11, m12, m13⟩ := recs_cells hc hid_ hy
          simp only [Nat.zero_add] at m0 m1 m2 m3 m4 m5 m6 m7 m8 m9 m10 m11 m12 m13
          clear hy hc hbl
          go_wp2_with fail
          go_roundw
          case rel => exact ⟨i + 1, j + 1, _, by go_num, by go_num, unhid HN⟩
          case measure => simp [intOf]; omega
        · have hse : (x.sign != s) = true := by simpa using hs
          have HN := hid ((unhid HI).skip hlt ((unhid HXX).symm ▸ hs))
          clear hs
          go_wp2_with fail
          go_roundw
          case rel => exact ⟨i, j + 1, dk, rfl, by go_num, unhid HN⟩
          case measure => simp [intOf]; omega
      · obtain rfl : j = l.length := by omega
        have hnn : ¬ (l.length : Int) < (l.length : Int) := by omega
        have hil : i < l.length := by omega
        have hlm : l.length ≤ 1000000 := unhid HL
        obtain ⟨cur, hh, hcs, -⟩ := (unhid HI).row.blk
        have hdl : dk.length = l.length := (unhid HI).len
        have hdc := (unhid HI).row.le
        have hct := (unhid HI).row.top
        have hzl : (Builtin.zeroCells (rcA rc0) (l.length - i)).toList.length = (l.length - i) * 14 := by
          rw [Array.length_toList, size_zeroCells]
          rfl
        have hcl : ∀ ty, (Builtin.clear_ #[22] ty #[.slice (some ⟨g, i * 14, none⟩) (l.length - i) (c - i)]).run Tryz.prog wr = .ok (.tuple #[]) (wr.setCells g (i * 14) (Builtin.zeroCells (rcA rc0) (l.length - i)).toList) := fun ty =>
          run_clear_k wr 22 82 ty (rcA rc0) Tryz.underlying22 zero_rc (zero_one _) g (i * 14) (c - i) (by omega)
            (fun t ht => by
              rw [hzl] at ht
              rw [cell_of_row wr g (i * 14 + t) cur _ _ hh, Array.getElem?_eq_getElem (by rw [hcs]; omega)]
              rfl)
            (fun t _ => by simp [World.frozen?, hh])
        obtain ⟨hw1, hw2⟩ := (unhid HI).row.wipe (n := 0) (i := i) (by omega) (Builtin.zeroCells (rcA rc0) (l.length - i)).toList
        have hlow := (unhid HI).low
        rw [List.take_length] at hlow
        rw [hlow] at hw1
        have HG := hid ((unhid HI).gr.trans hw2)
        have HW1 := hid hw1
        have hlk : (keepS l s).length = i := by
          rw [← hlow, List.length_take]
          omega
        have HLK := hid hlk
        generalize wr.setCells g (i * 14) (Builtin.zeroCells (rcA rc0) (l.length - i)).toList = W5 at *
        clear hzl hw1 hw2 hlow hlk hh hcs hdl
        have hic : (i : Int) ≤ (l.length : Int) := by omega
        have hlc : (l.length : Int) ≤ (c : Int) := by have := (unhid HI).len; omega
        have hown := (unhid HW1).own (unhid HBG)
        rw [unhid HLK] at hown
        have HP := hid (show DlPost w base (.slice (some ⟨g, 0, none⟩) l.length c) l s (.returned (.slice (some ⟨g, 0, none⟩) i c)) W5 from ⟨_, rfl, by rw [unhid HLK]; exact hown, rfl, unhid HG⟩)
        clear hown
        go_wp2_with fail
        go_ret
        exact unhid HP
  · rw [if_neg hk]
    obtain rfl : k = l.length := by have := (unhid HF).1; omega
    have HE := hid (show keepS l s = l from by
      have := keepS_all (unhid HF).2.1
      rwa [List.take_length] at this)
    have HP := hid (show DlPost w base (.slice A l.length c) l s (.returned (.slice A l.length c)) w2 from ⟨_, rfl, by rw [unhid HE]; exact own_below (unhid HO) (unhid HB2), rfl, grown_of_below (unhid HB2) _⟩)
    clear hk
    go_wp2_with fail
    go_ret
    exact unhid HP
end

section
open Go.RowKit Go.Shelf Go.Sort

/-- The records of a sign that count, by hour, and of one hour in their order. -/
def HisIs (L : List Rc) (s : Int) (H : List Rc) : Prop := H.Perm (keepS (cntL L) s) ∧ H.Pairwise fun a b => hlt a b = true
theorem hisIs_eq {L : List Rc} {s : Int} {H K : List Rc} (h1 : HisIs L s H) (h2 : HisIs L s K) : H = K := by
  have hp : H.Perm K := h1.1.trans h2.1.symm
  exact hp.eq_of_pairwise (fun a b _ _ h3 h4 => by
    have := hlt_trans h3 h4
    rw [hlt_irr] at this
    cases this) h1.2 h2.2
theorem HisIs.len {L : List Rc} {s : Int} {H : List Rc} (h : HisIs L s H) : H.length ≤ L.length := by
  rw [h.1.length_eq]
  exact Nat.le_trans (keepS_len _ _) (List.length_filter_le _ _)
def HisPost (w : World) (L : List Rc) (s : Int) (e : Ending) (w' : World) : Prop := ∃ v H, e = .returned (.tuple #[v, .int .i64 0]) ∧ HisIs L s H ∧ w'.ownsRow w.heap.size 82 14 v H.length (recs H) ∧ Below w.heap.size w w'

set_option maxHeartbeats 4000000 in
set_option maxRecDepth 100000 in
theorem historyNo_calls (s : Int) (hs : btw 1 s 1000000000 = false) {B m : Nat} {S : List Rc} (w : World) (h : BkAt w B m S) :
    Calls Tryz.prog 41 #[.pointer (some ⟨B, 0, none⟩), .int .i64 s] w fun e w' => e = .returned (.tuple #[.slice none 0 0, .int .i64 2]) ∧ Below w.heap.size w w' := by
  have hb0 := below_alloc w (.cells #[.int .i64 s] 3)
  have HK := hid (h.below' hb0)
  have HB := hid hb0
  have hX : (w.alloc (.cells #[.int .i64 s] 3)).cell? ⟨w.heap.size, 0, none⟩ = some (.int .i64 s) := cell_of_row _ w.heap.size 0 _ _ _ (heap_alloc_new w _)
  clear h hb0
  go_enter Tryz.func41, Tryz.ntmps41
  go_upto_region 1 with (fail)
  change Code.wp _ _ _ _ (w.alloc (.cells #[.int .i64 s] 3))
  generalize w.alloc (.cells #[.int .i64 s] 3) = W at *
  go_wp2_with (first | (go_at_call 56; refine (none_calls _ (unhid HK)).mono ?_; rintro e w' ⟨rfl, rfl⟩) | (go_at_call 57; refine (within_calls _ _ _ _).mono ?_; rintro e w' ⟨rfl, rfl⟩))
  go_ret2
  exact ⟨rfl, unhid HB⟩

set_option maxHeartbeats 4000000 in
set_option maxRecDepth 100000 in
theorem history_calls (s : Int) (hs : btw 1 s 1000000000 = true) {B m : Nat} {S L : List Rc} (w : World) (h : BkAt w B m S) (hS : S.length < 40) (hA : Asc L) (hm : ∀ r, r ∈ S ↔ r ∈ L) :
    Calls Tryz.prog 41 #[.pointer (some ⟨B, 0, none⟩), .int .i64 s] w fun e w' => HisPost w L s e w' := by
  have hb0 := below_alloc w (.cells #[.int .i64 s] 3)
  have HK := hid (h.below' hb0)
  have HV := hid h.v
  have HB := hid hb0
  have hX : (w.alloc (.cells #[.int .i64 s] 3)).cell? ⟨w.heap.size, 0, none⟩ = some (.int .i64 s) := cell_of_row _ w.heap.size 0 _ _ _ (heap_alloc_new w _)
  have HXL := hid (show w.heap.size < (w.alloc (.cells #[.int .i64 s] 3)).heap.size from by simp)
  have HSL := hid hS
  have HA := hid hA
  have HM := hid hm
  clear h hb0 hS hA hm
  go_enter Tryz.func41, Tryz.ntmps41
  go_upto_region 1 with (fail)
  change Code.wp _ _ _ _ (w.alloc (.cells #[.int .i64 s] 3))
  obtain ⟨X, hXe⟩ : ∃ X, X = w.heap.size := ⟨_, rfl⟩
  rw [← hXe] at hX HXL ⊢
  have HXE := hid hXe
  clear hXe
  generalize w.alloc (.cells #[.int .i64 s] 3) = W at *
  go_upto_region 3 with (first | (go_at_call 56; refine (none_calls _ (unhid HK)).mono ?_; rintro e w' ⟨rfl, rfl⟩) | (go_at_call 57; refine (within_calls _ _ _ _).mono ?_; rintro e w' ⟨rfl, rfl⟩))
  have HXC := hid hX
  clear hX hs
  go_wp2_with fail
  refine (split_calls W (unhid HK) (by have := unhid HSL; omega)).mono ?_
  rintro e w2 ⟨v, u, L2, rfl, hp, hA2, hv, -, -, hb2⟩
  obtain rfl : L2 = L := asc_eq hA2 (unhid HA) (fun r => by rw [hp.mem_iff, unhid HM r])
  have HLN := hid (show (cntL L2).length < 40 from Nat.lt_of_le_of_lt (List.length_filter_le _ _) (by rw [hp.length_eq]; exact unhid HSL))
  have HCV := hid (show ∀ r ∈ cntL L2, rcB r = true from fun r hr => unhid HV r (hp.mem_iff.1 (List.mem_filter.1 hr).1))
  have HCA := hid (show Asc (cntL L2) from List.Pairwise.filter _ (unhid HA))
  have HX2 := hid (show w2.cell? ⟨X, 0, none⟩ = some (.int .i64 s) ∧ X < w2.heap.size from ⟨(World.cell?_of_block (hb2.block X (unhid HXL))).trans (unhid HXC), Nat.lt_of_lt_of_le (unhid HXL) hb2.size⟩)
  have HVO := hid hv
  have HB2 := hid hb2
  clear hp hA2 hv hb2
  have HD := hid (deleteSign_calls (cntL L2) s v W.heap.size w2 (unhid HVO) (unhid HX2).1 (unhid HX2).2 (unhid HXL) (by have := unhid HLN; omega))
  have HIS := hid (show ∀ H, H.Perm (keepS (cntL L2) s) → (H.Pairwise fun a b => hlt a b = true) → HisIs L2 s H from fun H h1 h2 => ⟨h1, h2⟩)
  generalize cntL L2 = C at *
  go_wp2_with fail
  refine (unhid HD).mono ?_
  rintro e w3 ⟨u2, rfl, hu2, hob, hg3⟩
  have HU2 := hid hu2
  have HG3 := hid hg3
  have HOB := hid hob
  clear hu2 hob hg3 HD
  have HSO := hid (sortStable_calls (keepS C s) (fun r hr => unhid HCV r (List.mem_filter.1 hr).1) (List.Pairwise.filter _ (unhid HCA)) (Nat.lt_of_le_of_lt (keepS_len _ _) (unhid HLN)) u2 W.heap.size w3 (unhid HU2))
  go_wp2_with fail
  refine (unhid HSO).mono ?_
  rintro e w4 ⟨rfl, H, hH1, hH2, hown, hg4⟩
  have HP := hid (show HisPost w L2 s (.returned (.tuple #[u2, .int .i64 0])) w4 from by
    refine ⟨u2, H, rfl, unhid HIS H hH1 hH2, own_base hown (unhid HB).size, ?_⟩
    have hbs : w.heap.size ≤ W.heap.size := (unhid HB).size
    have q1 := (unhid HB).trans ((unhid HB2).mono hbs)
    have q2 := q1.grown (unhid HG3) q1.size (fun j hj => Nat.le_trans hbs (own_block_lt (unhid HVO) hj).1)
    exact q2.grown hg4 q2.size (fun j hj => Nat.le_trans hbs (own_block_lt (unhid HU2) hj).1))
  clear hH1 hH2 hown hg4 HSO
  go_wp2_with fail
  go_ret2
  exact unhid HP
end

section
open Go.RowKit Go.Shelf

theorem neq_pairC (x y : Int × Int) (w : World) : (binOp .neq 116 (.agg #[.int .i64 x.1, .int .i64 x.2]) (.agg #[.int .i64 y.1, .int .i64 y.2])).run Tryz.prog w = .ok (.bool (!decide (x = y))) w := by
  obtain ⟨x1, x2⟩ := x
  obtain ⟨y1, y2⟩ := y
  go_simp
  by_cases h1 : x1 = y1 <;> by_cases h2 : x2 = y2 <;> simp [h1, h2]

set_option maxHeartbeats 4000000 in
set_option maxRecDepth 100000 in
theorem sameCases_calls (l m : List (Int × Int)) (A A2 : Option Addr) (c c2 : Nat) (w : World) (h1 : Rd w A (fks l)) (h2 : Rd w A2 (fks m)) (hl : l.length ≤ 1000000) :
    Calls Tryz.prog 16 #[.slice A l.length c, .slice A2 m.length c2] w fun e w' => e = .returned (.bool (decide (l = m))) ∧ Below w.heap.size w w' := by
  have HR1 := hid h1
  have HR2 := hid h2
  have HLL := hid hl
  clear h1 h2 hl
  go_enter Tryz.func16, Tryz.ntmps16
  by_cases hlen : l.length = m.length
  · rw [hlen]
    go_upto_region 4 with (fail)
    go_loopw [5] (fun iv wr => ∃ k : Nat, k ≤ m.length ∧ iv = .int .i64 k ∧ l.take k = m.take k ∧ Below w.heap.size w wr) (fun iv _ => m.length - (intOf iv).toNat)
    case atStart => exact ⟨0, Nat.zero_le _, rfl, by simp, Below.refl _ _⟩
    case round =>
      obtain ⟨k, hk, rfl, ht, hb⟩ := hrel
      have HT := hid ht
      have HB := hid hb
      clear ht hb
      by_cases hlt : k < m.length
      · have hki : (k : Int) < (m.length : Int) := by omega
        have hlt1 : k < l.length := by omega
        obtain ⟨b1, o1, hA1, hbl1, hc1⟩ := ((unhid HR1).below (unhid HB)) (fks_ne hlt1)
        obtain ⟨b2, o2, hA2, hbl2, hc2⟩ := ((unhid HR2).below (unhid HB)) (fks_ne hlt)
        subst hA1 hA2
        obtain ⟨x, hx⟩ : ∃ x, l[k]'hlt1 = x := ⟨_, rfl⟩
        obtain ⟨y, hy⟩ : ∃ y, m[k]'hlt = y := ⟨_, rfl⟩
        have HXY := hid (⟨hx, hy⟩ : l[k]'hlt1 = x ∧ m[k]'hlt = y)
        have HC1 := hid (fks_cells hc1 hlt1 hx)
        have HC2 := hid (fks_cells hc2 hlt hy)
        clear hx hy hc1 hc2
        have r0 := fun p : After wr => After.cell (by dsimp only; exact hbl1) (unhid HC1).1 p
        have r1 := fun p : After wr => After.cell (by dsimp only; exact hbl1) (unhid HC1).2 p
        have q0 := fun p : After wr => After.cell (by dsimp only; exact hbl2) (unhid HC2).1 p
        have q1 := fun p : After wr => After.cell (by dsimp only; exact hbl2) (unhid HC2).2 p
        have hne := neq_pairC x y
        go_upto_region 6 with (fail)
        (refine wp_region_below (by kernel_rfl) (by kernel_rfl) ?_; (repeat (go_big_quiet_step (first | fail))); refine wpQuiet_nil ?_; intro wq hw'; obtain ⟨⟨wq2, hbq⟩, hw''⟩ := hw'; dsimp only at hw''; subst hw'')
        clear r0 r1 q0 q1
        have HB := hid ((unhid HB).trans (hbq.mono (unhid HB).size))
        clear hbq
        try clear hne
        by_cases hxy : x = y
        · have HTS := hid (take_sameP hlt1 hlt (unhid HT) (by rw [(unhid HXY).1, (unhid HXY).2, hxy]))
          have HW1 := hid (show wrap64 ((k : Int) + 1) = ((k + 1 : Nat) : Int) from by have h1 := unhid HLL; rw [hlen] at h1; unfold wrap64; omega)
          have hd : (!decide (x = y)) = false := by simp [hxy]
          (try rw [hd])
          clear hd
          (try simp only [hxy])
          clear hxy
          go_wp2_with fail
          go_roundw
          case rel => exact ⟨k + 1, by omega, by rw [unhid HW1], unhid HTS, unhid HB⟩
          case measure => rw [unhid HW1]; simp [intOf]; omega
        · have HNE := hid (show decide (l = m) = false from by
            rw [decide_eq_false_iff_not]
            intro e
            subst e
            exact hxy ((unhid HXY).1.symm.trans (unhid HXY).2))
          have hd : (!decide (x = y)) = true := by simp [hxy]
          (try rw [hd])
          go_wp2_with fail
          go_ret
          exact ⟨by rw [unhid HNE]; rfl, unhid HB⟩
      · obtain rfl : k = m.length := by omega
        have HEQ := hid (show decide (l = m) = true from by
          have h := unhid HT
          rw [← hlen, List.take_length, hlen, List.take_length] at h
          simp [h])
        go_wp2_with fail
        go_ret
        exact ⟨by rw [unhid HEQ]; rfl, unhid HB⟩
  · have hne : ¬ (l.length : Int) = (m.length : Int) := by omega
    have HNE := hid (show decide (l = m) = false from by
      rw [decide_eq_false_iff_not]
      intro e
      exact hlen (by rw [e]))
    go_wp2_with fail
    go_ret
    exact ⟨by rw [unhid HNE]; rfl, Below.refl _ _⟩
end

section
open Go.RowKit Go.Shelf

set_option maxHeartbeats 4000000 in
set_option maxRecDepth 100000 in
theorem sameInts_calls (l m : List Int) (A A2 : Option Addr) (c c2 : Nat) (w : World) (h1 : Rd w A (ints l)) (h2 : Rd w A2 (ints m)) (hl : l.length ≤ 1000000) :
    Calls Tryz.prog 18 #[.slice A l.length c, .slice A2 m.length c2] w fun e w' => e = .returned (.bool (decide (l = m))) ∧ Below w.heap.size w w' := by
  have HR1 := hid h1
  have HR2 := hid h2
  have HLL := hid hl
  clear h1 h2 hl
  go_enter Tryz.func18, Tryz.ntmps18
  by_cases hlen : l.length = m.length
  · rw [hlen]
    go_upto_region 4 with (fail)
    go_loopw [5] (fun iv wr => ∃ k : Nat, k ≤ m.length ∧ iv = .int .i64 k ∧ l.take k = m.take k ∧ Below w.heap.size w wr) (fun iv _ => m.length - (intOf iv).toNat)
    case atStart => exact ⟨0, Nat.zero_le _, rfl, by simp, Below.refl _ _⟩
    case round =>
      obtain ⟨k, hk, rfl, ht, hb⟩ := hrel
      have HT := hid ht
      have HB := hid hb
      clear ht hb
      by_cases hlt : k < m.length
      · have hki : (k : Int) < (m.length : Int) := by omega
        have hlt1 : k < l.length := by omega
        obtain ⟨b1, o1, hA1, hbl1, hc1⟩ := ((unhid HR1).below (unhid HB)) (ints_ne hlt1)
        obtain ⟨b2, o2, hA2, hbl2, hc2⟩ := ((unhid HR2).below (unhid HB)) (ints_ne hlt)
        subst hA1 hA2
        obtain ⟨x, hx⟩ : ∃ x, l[k]'hlt1 = x := ⟨_, rfl⟩
        obtain ⟨y, hy⟩ : ∃ y, m[k]'hlt = y := ⟨_, rfl⟩
        have HXY := hid (⟨hx, hy⟩ : l[k]'hlt1 = x ∧ m[k]'hlt = y)
        have e1 : wr.cell? ⟨b1, o1 + k, none⟩ = some (.int .i64 x) := by rw [← hx]; exact hc1 k _ (ints_at _ k hlt1)
        have e2 : wr.cell? ⟨b2, o2 + k, none⟩ = some (.int .i64 y) := by rw [← hy]; exact hc2 k _ (ints_at _ k hlt)
        clear hx hy hc1 hc2
        have r0 := fun p : After wr => After.cell (by dsimp only; exact hbl1) e1 p
        have q0 := fun p : After wr => After.cell (by dsimp only; exact hbl2) e2 p
        have hne : (x != y) = !decide (x = y) := by by_cases h : x = y <;> simp [h]
        go_upto_region 6 with (fail)
        (refine wp_region_below (by kernel_rfl) (by kernel_rfl) ?_; (repeat (go_big_quiet_step (first | fail))); refine wpQuiet_nil ?_; intro wq hw'; obtain ⟨⟨wq2, hbq⟩, hw''⟩ := hw'; dsimp only at hw''; subst hw'')
        clear r0 q0
        have HB := hid ((unhid HB).trans (hbq.mono (unhid HB).size))
        clear hbq
        try clear hne
        by_cases hxy : x = y
        · have HTS := hid (take_sameP hlt1 hlt (unhid HT) (by rw [(unhid HXY).1, (unhid HXY).2, hxy]))
          have HW1 := hid (show wrap64 ((k : Int) + 1) = ((k + 1 : Nat) : Int) from by have h1 := unhid HLL; rw [hlen] at h1; unfold wrap64; omega)
          have hd : (!decide (x = y)) = false := by simp [hxy]
          (try rw [hd])
          clear hd
          (try simp only [hxy])
          clear hxy
          go_wp2_with fail
          go_roundw
          case rel => exact ⟨k + 1, by omega, by rw [unhid HW1], unhid HTS, unhid HB⟩
          case measure => rw [unhid HW1]; simp [intOf]; omega
        · have HNE := hid (show decide (l = m) = false from by
            rw [decide_eq_false_iff_not]
            intro e
            subst e
            exact hxy ((unhid HXY).1.symm.trans (unhid HXY).2))
          have hd : (!decide (x = y)) = true := by simp [hxy]
          (try rw [hd])
          go_wp2_with fail
          go_ret
          exact ⟨by rw [unhid HNE]; rfl, unhid HB⟩
      · obtain rfl : k = m.length := by omega
        have HEQ := hid (show decide (l = m) = true from by
          have h := unhid HT
          rw [← hlen, List.take_length, hlen, List.take_length] at h
          simp [h])
        go_wp2_with fail
        go_ret
        exact ⟨by rw [unhid HEQ]; rfl, unhid HB⟩
  · have hne : ¬ (l.length : Int) = (m.length : Int) := by omega
    have HNE := hid (show decide (l = m) = false from by
      rw [decide_eq_false_iff_not]
      intro e
      exact hlen (by rw [e]))
    go_wp2_with fail
    go_ret
    exact ⟨by rw [unhid HNE]; rfl, Below.refl _ _⟩
end

section
open Go.RowKit Go.Shelf

theorem his_ins {C H : List Rc} {s : Int} {k q : Nat} {x : Rc} (hA : Asc C) (hk : k < C.length) (hx : C[k] = x) (hs : x.sign = s) (hp : H.Perm (keepS (C.take k) s)) (hw : H.Pairwise fun a b => hlt a b = true) (hq : q ≤ H.length)
    (h1 : ∀ j (h : j < H.length), j < q → H[j].hour ≤ x.hour) (h2 : ∀ j (h : j < H.length), q ≤ j → x.hour < H[j].hour) :
    (H.take q ++ x :: H.drop q).Perm (keepS (C.take (k + 1)) s) ∧ (H.take q ++ x :: H.drop q).Pairwise fun a b => hlt a b = true := by
  have hbef : ∀ a ∈ H, rls a x = true := fun a ha => by
    have := hp.mem_iff.1 ha
    obtain ⟨h3, -⟩ := List.mem_filter.1 this
    obtain ⟨j, hj, e⟩ := List.getElem_of_mem h3
    rw [List.length_take] at hj
    rw [List.getElem_take] at e
    have := List.pairwise_iff_getElem.1 hA j k (by omega) hk (by omega)
    rwa [e, hx] at this
  have htk : ∀ a ∈ H.take q, hlt a x = true := fun a ha => by
    obtain ⟨j, hj, e⟩ := List.getElem_of_mem ha
    rw [List.length_take] at hj
    rw [List.getElem_take] at e
    have h3 := h1 j (by omega) (by omega)
    rw [e] at h3
    rw [hlt_iff]
    by_cases e2 : a.hour = x.hour
    · exact .inr ⟨e2, hbef a (List.mem_of_mem_take ha)⟩
    · exact .inl (by omega)
  have hdr : ∀ a ∈ H.drop q, hlt x a = true := fun a ha => by
    obtain ⟨j, hj, e⟩ := List.getElem_of_mem ha
    rw [List.length_drop] at hj
    rw [List.getElem_drop] at e
    have h3 := h2 (q + j) (by omega) (by omega)
    rw [e] at h3
    exact hlt_iff.2 (.inl h3)
  refine ⟨?_, ?_⟩
  · rw [keepS_go hk (by rw [hx]; exact hs), hx]
    refine List.perm_middle.trans ?_
    rw [List.take_append_drop]
    exact ((List.perm_cons x).2 hp).trans (List.perm_append_singleton x _).symm
  · rw [List.pairwise_append]
    refine ⟨hw.sublist (List.take_sublist _ _), ?_, fun a ha b hb => ?_⟩
    · rw [List.pairwise_cons]
      exact ⟨hdr, hw.sublist (List.drop_sublist _ _)⟩
    · rcases List.mem_cons.1 hb with rfl | hb
      · exact htk a ha
      · exact hlt_trans (htk a ha) (hdr b hb)
/-- The history in the making. -/
structure HiI (w0 : World) (C : List Rc) (s : Int) (k : Nat) (v : Value) (w : World) : Prop where
  is : ∃ (A : Option Addr) (c : Nat) (H : List Rc), v = .slice A H.length c ∧ Rd w A (recs H) ∧ H.length ≤ c ∧ H.Perm (keepS (C.take k) s) ∧ H.Pairwise fun a b => hlt a b = true
  b : Below w0.heap.size w0 w
def RHisPost (w : World) (L : List Rc) (s : Int) (e : Ending) (w' : World) : Prop := ∃ A c H, e = .returned (.slice A H.length c) ∧ HisIs L s H ∧ Rd w' A (recs H) ∧ Below w.heap.size w w'

set_option maxHeartbeats 8000000 in
set_option maxRecDepth 100000 in
theorem rhistory_calls (s : Int) {B : Nat} {L : List Rc} (w : World) (h : RbAt w B L) (hL : L.length ≤ 100000) :
    Calls Tryz.prog 42 #[.pointer (some ⟨B, 0, none⟩), .int .i64 s] w fun e w' => RHisPost w L s e w' := by
  obtain ⟨i0, hi, hz0, hz1, hz2⟩ := info_parts info_rec
  have HC := hid (rcounting_calls w h (by omega))
  have HLL := hid (show (cntL L).length ≤ 100000 from Nat.le_trans (List.length_filter_le _ _) hL)
  have HAS := hid (show Asc (cntL L) from List.Pairwise.filter _ h.asc)
  have HE := hid (show ∀ H : List Rc, H.Perm (keepS ((cntL L).take (cntL L).length) s) → (H.Pairwise fun a b => hlt a b = true) → HisIs L s H from fun H h1 h2 => ⟨by rwa [List.take_length] at h1, h2⟩)
  clear h hL
  go_enter Tryz.func42, Tryz.ntmps42
  go_wp2_with fail
  refine (unhid HC).mono ?_
  rintro e w2 ⟨v, rfl, hrow, hb2⟩
  obtain ⟨A, c, rfl, hrd, -⟩ := own_slice hrow
  have HRD := hid hrd
  have HB2 := hid hb2
  clear hrow hrd hb2 HC
  generalize cntL L = C at *
  go_upto_region 4 with (fail)
  go_loopw [7, 6] (fun kv mv wr => ∃ k : Nat, k ≤ C.length ∧ kv = .int .i64 k ∧ HiI w2 C s k mv wr) (fun kv _ _ => C.length - (intOf kv).toNat)
  case atStart => exact ⟨0, Nat.zero_le _, rfl, ⟨⟨none, 0, [], rfl, Rd.nil _ _, Nat.le_refl _, by simp [keepS], List.Pairwise.nil⟩, Below.refl _ _⟩⟩
  case round =>
    obtain ⟨k, hk, rfl, hi2⟩ := hrel
    obtain ⟨⟨A0, c0, H, hev, hrh, hcH, hpH, hwH⟩, hb⟩ := hi2
    subst hev
    have HRH := hid hrh
    have HCH := hid hcH
    have HPH := hid hpH
    have HWH := hid hwH
    have HB := hid hb
    have hlm : C.length ≤ 100000 := unhid HLL
    have HHL := hid (show H.length ≤ C.length from by
      rw [hpH.length_eq]
      exact Nat.le_trans (keepS_len _ _) (by rw [List.length_take]; omega))
    clear hrh hcH hpH hwH hb
    by_cases hlt : k < C.length
    · have hki : (k : Int) < (C.length : Int) := by omega
      obtain ⟨b, off, hAe, -, -⟩ := ((unhid HRD).below (unhid HB)) (recs_ne hlt)
      obtain ⟨x, hx⟩ : ∃ x, C[k]'hlt = x := ⟨_, rfl⟩
      have HX := hid hx
      have HAT := hid (show ∀ W : World, Below w2.heap.size w2 W → b < W.heap.size ∧ ∀ j u, (recs C)[j]? = some u → W.cell? ⟨b, off + j, none⟩ = some u from fun W hb => by
        obtain ⟨b', off', e, h1, h2⟩ := ((unhid HRD).below hb) (recs_ne hlt)
        rw [hAe] at e
        cases e
        exact ⟨h1, h2⟩)
      subst hAe
      clear hx
      obtain ⟨a0, a1, a2, a3, a4, a5, a6, a7, a8', a9, a10, a11, a12, a13⟩ := rec_at14 (unhid HAT _ (unhid HB)).2 hlt (unhid HX)
      by_cases hs : x.sign = s
      · have hsn : (x.sign != s) = false := by simpa using hs
        have HS := hid hs
        clear hs
        go_upto_region 8 with (fail)
        clear a0 a1 a2 a3 a4 a5 a6 a7 a8' a9 a10 a11 a12 a13 hsn
        go_loopw [8] (fun qv wz => ∃ q : Nat, q ≤ H.length ∧ qv = .int .i64 q ∧ (∀ j (h : j < H.length), q ≤ j → x.hour < H[j].hour) ∧ Rd wz A0 (recs H) ∧ Below w2.heap.size w2 wz) (fun qv _ => (intOf qv).toNat)
        case atStart => exact ⟨H.length, Nat.le_refl _, rfl, fun j h hj => by omega, unhid HRH, unhid HB⟩
        case round =>
          clear HRH HB
          obtain ⟨q, hq, rfl, hup, hrh, hb⟩ := hrel
          have HUP := hid hup
          have HRH := hid hrh
          have HB := hid hb
          have HQ := hid hq
          have hhl : (H.length : Int) ≤ 100000 := by have := unhid HHL; omega
          clear hup hrh hb
          by_cases hq0 : q = 0
          · have hqi : ¬ (q : Int) > 0 := by omega
            have hqb : decide ((q : Int) > 0) = false := decide_eq_false hqi
            have hqc : decide (0 < (q : Int)) = false := decide_eq_false hqi
            have hqd : ¬ (0 : Int) < (q : Int) := hqi
            have hqe : ¬ 0 < q := by omega
            have HLOW := hid (show ∀ j (h : j < H.length), j < q → H[j].hour ≤ x.hour from fun j h hj => by omega)
            clear hq0
            go_wp2_with fail
            (refine wp_region_below (by kernel_rfl) (by kernel_rfl) ?_; (repeat (go_big_quiet_step (first | fail))); refine wpQuiet_nil ?_; intro wq hw'; obtain ⟨⟨wq2, hbq⟩, hw''⟩ := hw'; dsimp only at hw''; subst hw'')
            have HRH := hid ((unhid HRH).below hbq)
            have HB := hid ((unhid HB).trans (hbq.mono (unhid HB).size))
            clear hbq
            go_upto_region 10 with (fail)
            clear hqi hqb hqc hqd hqe
            have hkl : (q : Int) ≤ (H.length : Int) := by omega
            have hkc : (q : Int) ≤ (c0 : Int) := by have := unhid HCH; omega
            have hk0 : (0 : Int) ≤ (q : Int) := by omega
            have hlc : (H.length : Int) ≤ (c0 : Int) := by have := unhid HCH; omega
            have HSF := hid (show ∀ w', Below wq.heap.size wq w' → (w'.cell? ⟨b, off + k * 14, none⟩ = some (.int .i64 x.tab) ∧ w'.cell? ⟨b, off + k * 14 + 1, none⟩ = some (.int .i64 x.num) ∧ w'.cell? ⟨b, off + k * 14 + 2, none⟩ = some (.int .i64 x.hour) ∧ w'.cell? ⟨b, off + k * 14 + 3, none⟩ = some (.int .i64 x.sign) ∧ w'.cell? ⟨b, off + k * 14 + 4, none⟩ = some (.int .i64 x.fld) ∧ w'.cell? ⟨b, off + k * 14 + 5, none⟩ = some (.int .i64 x.val) ∧ w'.cell? ⟨b, off + k * 14 + 6, none⟩ = some (.int .i64 x.s0) ∧ w'.cell? ⟨b, off + k * 14 + 7, none⟩ = some (.int .i64 x.s1) ∧ w'.cell? ⟨b, off + k * 14 + 8, none⟩ = some (.int .i64 x.s2) ∧ w'.cell? ⟨b, off + k * 14 + 9, none⟩ = some (.int .i64 x.s3) ∧ w'.cell? ⟨b, off + k * 14 + 10, none⟩ = some (.int .i64 x.s4) ∧ w'.cell? ⟨b, off + k * 14 + 11, none⟩ = some (.int .i64 x.s5) ∧ w'.cell? ⟨b, off + k * 14 + 12, none⟩ = some (.int .i64 x.s6) ∧ w'.cell? ⟨b, off + k * 14 + 13, none⟩ = some (.int .i64 x.s7)) from fun w' hb => rec_at14 (unhid HAT _ ((unhid HB).trans (hb.mono (unhid HB).size))).2 hlt (unhid HX))
            refine wp_region_noPanic ?_
            refine wp_region_E (S := fun w' => (w'.cell? ⟨b, off + k * 14, none⟩ = some (.int .i64 x.tab) ∧ w'.cell? ⟨b, off + k * 14 + 1, none⟩ = some (.int .i64 x.num) ∧ w'.cell? ⟨b, off + k * 14 + 2, none⟩ = some (.int .i64 x.hour) ∧ w'.cell? ⟨b, off + k * 14 + 3, none⟩ = some (.int .i64 x.sign) ∧ w'.cell? ⟨b, off + k * 14 + 4, none⟩ = some (.int .i64 x.fld) ∧ w'.cell? ⟨b, off + k * 14 + 5, none⟩ = some (.int .i64 x.val) ∧ w'.cell? ⟨b, off + k * 14 + 6, none⟩ = some (.int .i64 x.s0) ∧ w'.cell? ⟨b, off + k * 14 + 7, none⟩ = some (.int .i64 x.s1) ∧ w'.cell? ⟨b, off + k * 14 + 8, none⟩ = some (.int .i64 x.s2) ∧ w'.cell? ⟨b, off + k * 14 + 9, none⟩ = some (.int .i64 x.s3) ∧ w'.cell? ⟨b, off + k * 14 + 10, none⟩ = some (.int .i64 x.s4) ∧ w'.cell? ⟨b, off + k * 14 + 11, none⟩ = some (.int .i64 x.s5) ∧ w'.cell? ⟨b, off + k * 14 + 12, none⟩ = some (.int .i64 x.s6) ∧ w'.cell? ⟨b, off + k * 14 + 13, none⟩ = some (.int .i64 x.s7))) 14 15 rfl (by kernel_rfl) (by kernel_rfl) ((unhid HSF) _ (Below.drew (Below.refl _ _))) ?_
            intro hSE
            have HBe := hid (Below.drew (Below.refl wq.heap.size wq))
            generalize wq.drew = Wd at *
            (refine WE_take (i := 0) (v := ?_) rfl (by kernel_rfl) (by decide) (by kernel_rfl) (by kernel_rfl) (fun _ _ _ h => h) (by rfl) hSE ?_ ?_; rotate_left; (focus (intro w hSw; (try dsimp only at hSw); go_simp; (try with_reducible rfl))); simp only [Act.put, List.setIfInBounds_toArray, List.set_cons_zero, List.set_cons_succ])
            (refine WE_take (i := 1) (v := ?_) rfl (by kernel_rfl) (by decide) (by kernel_rfl) (by kernel_rfl) (fun _ _ _ h => h) (by rfl) hSE ?_ ?_; rotate_left; (focus (intro w hSw; (try dsimp only at hSw); go_simp; (try with_reducible rfl))); simp only [Act.put, List.setIfInBounds_toArray, List.set_cons_zero, List.set_cons_succ])
            (refine WE_take (i := 2) (v := ?_) rfl (by kernel_rfl) (by decide) (by kernel_rfl) (by kernel_rfl) (fun _ _ _ h => h) (by rfl) hSE ?_ ?_; rotate_left; (focus (intro w hSw; (try dsimp only at hSw); go_simp; (try with_reducible rfl))); simp only [Act.put, List.setIfInBounds_toArray, List.set_cons_zero, List.set_cons_succ])
            (refine WE_take (i := 3) (v := ?_) rfl (by kernel_rfl) (by decide) (by kernel_rfl) (by kernel_rfl) (fun _ _ _ h => h) (by rfl) hSE ?_ ?_; rotate_left; (focus (intro w hSw; (try dsimp only at hSw); go_simp; (try with_reducible rfl))); simp only [Act.put, List.setIfInBounds_toArray, List.set_cons_zero, List.set_cons_succ])
            (refine WE_take (i := 4) (v := ?_) rfl (by kernel_rfl) (by decide) (by kernel_rfl) (by kernel_rfl) (fun _ _ _ h => h) (by rfl) hSE ?_ ?_; rotate_left; (focus (intro w hSw; (try dsimp only at hSw); go_simp; (try with_reducible rfl))); simp only [Act.put, List.setIfInBounds_toArray, List.set_cons_zero, List.set_cons_succ])
            (refine WE_take (i := 5) (v := ?_) rfl (by kernel_rfl) (by decide) (by kernel_rfl) (by kernel_rfl) (fun _ _ _ h => h) (by rfl) hSE ?_ ?_; rotate_left; (focus (intro w hSw; (try dsimp only at hSw); go_simp; (try with_reducible rfl))); simp only [Act.put, List.setIfInBounds_toArray, List.set_cons_zero, List.set_cons_succ])
            (refine WE_take (i := 6) (v := ?_) rfl (by kernel_rfl) (by decide) (by kernel_rfl) (by kernel_rfl) (fun _ _ _ h => h) (by rfl) hSE ?_ ?_; rotate_left; (focus (intro w hSw; (try dsimp only at hSw); go_simp; (try with_reducible rfl))); simp only [Act.put, List.setIfInBounds_toArray, List.set_cons_zero, List.set_cons_succ])
            (refine WE_take (i := 7) (v := ?_) rfl (by kernel_rfl) (by decide) (by kernel_rfl) (by kernel_rfl) (fun _ _ _ h => h) (by rfl) hSE ?_ ?_; rotate_left; (focus (intro w hSw; (try dsimp only at hSw); go_simp; (try with_reducible rfl))); simp only [Act.put, List.setIfInBounds_toArray, List.set_cons_zero, List.set_cons_succ])
            (refine WE_take (i := 9) (v := ?_) rfl (by kernel_rfl) (by decide) (by kernel_rfl) (by kernel_rfl) (fun _ _ _ h => h) (by rfl) hSE ?_ ?_; rotate_left; (focus (intro w hSw; (try dsimp only at hSw); go_simp; (try with_reducible rfl))); simp only [Act.put, List.setIfInBounds_toArray, List.set_cons_zero, List.set_cons_succ])
            (refine WE_take (i := 10) (v := ?_) rfl (by kernel_rfl) (by decide) (by kernel_rfl) (by kernel_rfl) (fun _ _ _ h => h) (by rfl) hSE ?_ ?_; rotate_left; (focus (intro w hSw; (try dsimp only at hSw); go_simp; (try with_reducible rfl))); simp only [Act.put, List.setIfInBounds_toArray, List.set_cons_zero, List.set_cons_succ])
            (refine WE_take (i := 11) (v := ?_) rfl (by kernel_rfl) (by decide) (by kernel_rfl) (by kernel_rfl) (fun _ _ _ h => h) (by rfl) hSE ?_ ?_; rotate_left; (focus (intro w hSw; (try dsimp only at hSw); go_simp; (try with_reducible rfl))); simp only [Act.put, List.setIfInBounds_toArray, List.set_cons_zero, List.set_cons_succ])
            (refine WE_one (i := 8) rfl (by decide) (by kernel_rfl) ?_; intro K hK)
            go_simp
            change K _ (Wd.alloc (.cells (rcA x) 82))
            have HNR := hid (show Rd (Wd.alloc (.cells (rcA x) 82)) (some ⟨Wd.heap.size, 0, none⟩) (rcC x) from fun _ => ⟨Wd.heap.size, 0, rfl, by simp, fun j u hu => by
              rw [Nat.zero_add, World.cell?_alloc_new]
              rw [← Array.getElem?_toList]
              exact hu⟩)
            obtain ⟨Bn, hBn⟩ : ∃ Bn, Bn = Wd.heap.size := ⟨_, rfl⟩
            rw [← hBn] at HNR ⊢
            have HBe := hid ((unhid HBe).alloc (unhid HBe).size (.cells (rcA x) 82))
            refine hK.out _ _ ((unhid HSF) _ (unhid HBe)) ?_
            clear hSE hK K hBn
            intro hSE
            (try simp only [Act.put, List.setIfInBounds_toArray, List.set_cons_zero, List.set_cons_succ])
            generalize Wd.alloc (.cells (rcA x) 82) = Wa at *
            have HCUT := hid (((unhid HRH).below (unhid HBe)).cut q 14 c0 (fun h => by rw [recs_len] at h; have := unhid HCH; omega))
            have HDL := hid (show ((recs H).drop (q * 14)).length = (H.length - q) * 14 from by rw [List.length_drop, recs_len]; omega)
            have HTL := hid (show ((recs H).take (q * 14)).length = q * 14 from by rw [List.length_take, recs_len]; have := unhid HQ; omega)
            have HDO := hid (show ∀ u ∈ (recs H).drop (q * 14), u.oneCell' = true from fun u hu => recs_cell1 H u (List.mem_of_mem_drop hu))
            have HYO := hid (show ∀ u ∈ rcC x ++ (recs H).drop (q * 14), u.oneCell' = true from fun u hu => by
              rcases List.mem_append.1 hu with h | h
              · exact recs_cell1 [x] u (by rw [recs_one]; exact h)
              · exact unhid HDO u h)
            have HYL := hid (show (rcC x ++ (recs H).drop (q * 14)).length = (1 + (H.length - q)) * 14 from by
              rw [List.length_append, unhid HDL]
              show 14 + _ = _
              omega)
            have HNK := hid (show A0 = none → q = 0 from fun h => by
              rcases Nat.eq_zero_or_pos q with h0 | h0
              · exact h0
              · obtain ⟨b7, off7, e, -⟩ := (unhid HRH) (recs_ne (k := 0) (L := H) (by have := unhid HQ; omega))
                rw [h] at e; cases e)
            have HB1 := hid (show 1 + (H.length - q) ≤ maxLen ∧ (1 + (H.length - q)) * 112 ≤ 140737488355328 from by have := unhid HHL; have := unhid HLL; unfold maxLen; omega)
            have HB3 := hid (show q + (1 + (H.length - q)) ≤ maxLen ∧ (q + (1 + (H.length - q))) * 112 ≤ 140737488355328 ∧ q ≤ maxLen from by have := unhid HHL; have := unhid HLL; have := unhid HQ; unfold maxLen; omega)
            (refine WE_one (i := 12) rfl (by decide) (by kernel_rfl) ?_; intro K hK)
            refine step_app (by rfl) _ _ _ (by rfl) 82 i0 _ 14 112 Tryz.underlying22 hi hz0 hz1 hz2 rfl (by omega) (some ⟨Bn, 0, none⟩) 1 1 (rcC x) (by rfl) (unhid HNR) (by rfl) (fun h => by cases h) (Nat.le_refl _) (by unfold maxLen; omega) _ (H.length - q) (c0 - q) ((recs H).drop (q * 14)) (by rfl) (unhid HCUT) (unhid HDL) (unhid HDO) (by omega) (unhid HB1).1 (unhid HB1).2 ?_
            intro A3 c3 w3 hr3 hle3 hcm3 hn3 hg3
            have HR3 := hid hr3
            have HBe := hid ((unhid HBe).trans ((below_of_grown hg3).mono (unhid HBe).size))
            clear hr3 hg3 hle3 hcm3 hn3
            refine hK.out _ _ ((unhid HSF) _ (unhid HBe)) ?_
            clear hSE hK K
            intro hSE
            (try simp only [Act.put, List.setIfInBounds_toArray, List.set_cons_zero, List.set_cons_succ])
            have HRT := hid (((unhid HRH).below (unhid HBe)).take (q * 14))
            (refine WE_one (i := 13) rfl (by decide) (by kernel_rfl) ?_; intro K hK)
            refine step_app (by rfl) _ _ _ (by rfl) 82 i0 _ 14 112 Tryz.underlying22 hi hz0 hz1 hz2 rfl (by omega) A0 q q ((recs H).take (q * 14)) (by rfl) (unhid HRT) (unhid HTL) (unhid HNK) (Nat.le_refl _) (unhid HB3).2.2 A3 (1 + (H.length - q)) c3 (rcC x ++ (recs H).drop (q * 14)) (by rfl) (unhid HR3) (unhid HYL) (unhid HYO) (.inr (by omega)) (unhid HB3).1 (unhid HB3).2.1 ?_
            intro A4 c4 w4 hr4 hle4 hcm4 hn4 hg4
            have HBe := hid ((unhid HBe).trans ((below_of_grown hg4).mono (unhid HBe).size))
            have HN := hid (show HiI w2 C s (k + 1) (.slice A4 (q + (1 + (H.length - q))) c4) w4 from by
              have hq' := unhid HQ
              have hlen : (H.take q ++ x :: H.drop q).length = q + (1 + (H.length - q)) := by
                rw [List.length_append, List.length_cons, List.length_take, List.length_drop]
                omega
              obtain ⟨g1, g2⟩ := his_ins (unhid HAS) hlt (unhid HX) (unhid HS) (unhid HPH) (unhid HWH) hq' (unhid HLOW) (unhid HUP)
              refine ⟨⟨A4, c4, H.take q ++ x :: H.drop q, by rw [hlen], ?_, by rw [hlen]; exact hle4, g1, g2⟩, (unhid HB).trans ((unhid HBe).mono (unhid HB).size)⟩
              have e : recs (H.take q ++ x :: H.drop q) = (recs H).take (q * 14) ++ (rcC x ++ (recs H).drop (q * 14)) := by
                rw [recs_append, ← recs_take H hq', ← recs_drop H hq']; rfl
              rw [e]
              exact hr4)
            clear hr4 hg4 hle4 hcm4 hn4
            refine hK.out _ _ ((unhid HSF) _ (unhid HBe)) ?_
            clear hSE hK K
            intro hSE
            (try simp only [Act.put, List.setIfInBounds_toArray, List.set_cons_zero, List.set_cons_succ])
            (refine WE_last rfl (by kernel_rfl) (by kernel_rfl) (by kernel_rfl) ?_; intro K hK; go_simp; refine hK.out _ _ (NoPanic.normal ?_); clear hK K)
            clear hSE HSF
            go_wp2_with fail
            go_roundw
            case rel => exact ⟨k + 1, by omega, by go_num, unhid HN⟩
            case measure => simp [intOf]; omega
          · obtain ⟨p0, rfl⟩ : ∃ p0, q = p0 + 1 := ⟨q - 1, by omega⟩
            obtain ⟨b5, off5, hA5, hbl5, hc5⟩ := (unhid HRH) (recs_ne (k := p0) (by omega))
            obtain ⟨y, hy⟩ : ∃ y, H[p0]'(by omega) = y := ⟨_, rfl⟩
            have HY := hid hy
            have fy := fun p : After wr => (After.cell (a := ⟨b5, off5 + p0 * 14 + 2, none⟩) hbl5 (rec_at14 hc5 (show p0 < H.length by omega) hy).2.2.1 p : p.w.cell? ⟨b5, off5 + p0 * 14 + 2, none⟩ = some (.int .i64 y.hour))
            have fx := fun p : After wr => (After.cell (a := ⟨b, off + k * 14 + 2, none⟩) (unhid HAT _ (unhid HB)).1 (rec_at14 (unhid HAT _ (unhid HB)).2 hlt (unhid HX)).2.2.1 p : p.w.cell? ⟨b, off + k * 14 + 2, none⟩ = some (.int .i64 x.hour))
            clear hc5 hy
            have hp1 : (p0 : Int) + 1 > 0 := by omega
            have hpl : (p0 : Int) < (H.length : Int) := by omega
            have hwp : wrap64 (p0 : Int) = (p0 : Int) := by unfold wrap64; omega
            have hwp2 : IntKind.i64.wrap (p0 : Int) = (p0 : Int) := by rw [IntKind.wrap_i64]; omega
            by_cases hgt : x.hour < y.hour
            · have hgt2 : y.hour > x.hour := hgt
              subst hA5
              go_wp2_with fail
              (refine wp_region_below (by kernel_rfl) (by kernel_rfl) ?_; (repeat (go_big_quiet_step (first | fail))); refine wpQuiet_nil ?_; intro wq hw'; obtain ⟨⟨wq2, hbq⟩, hw''⟩ := hw'; dsimp only at hw''; subst hw'')
              have HRH := hid ((unhid HRH).below hbq)
              have HB := hid ((unhid HB).trans (hbq.mono (unhid HB).size))
              clear hbq fx fy
              go_wp2_with fail
              go_roundw
              case rel => exact ⟨p0, by omega, by first | rfl | go_num, fun j h hj => by
                by_cases e : j = p0
                · subst e
                  rw [unhid HY]
                  exact hgt
                · exact unhid HUP j h (by omega), unhid HRH, unhid HB⟩
              case measure => simp [intOf]; try omega
            · have hgt2 : ¬ y.hour > x.hour := hgt
              have HLOW := hid (show ∀ j (h : j < H.length), j < p0 + 1 → H[j].hour ≤ x.hour from fun j h hj => by
                by_cases e : j = p0
                · subst e
                  rw [unhid HY]
                  omega
                · have h1 := List.pairwise_iff_getElem.1 (unhid HWH) j p0 h (by omega) (by omega)
                  rw [unhid HY] at h1
                  rcases hlt_iff.1 h1 with h1 | h1 <;> omega)
              subst hA5
              go_wp2_with fail
              (refine wp_region_below (by kernel_rfl) (by kernel_rfl) ?_; (repeat (go_big_quiet_step (first | fail))); refine wpQuiet_nil ?_; intro wq hw'; obtain ⟨⟨wq2, hbq⟩, hw''⟩ := hw'; dsimp only at hw''; subst hw'')
              have HRH := hid ((unhid HRH).below hbq)
              have HB := hid ((unhid HB).trans (hbq.mono (unhid HB).size))
              clear hbq fx fy
              go_upto_region 10 with (fail)
              clear hgt hgt2 hwp hwp2 hp1 hpl hbl5 HY
              obtain ⟨q, hq'⟩ : ∃ q, q = p0 + 1 := ⟨_, rfl⟩
              (try rw [show (p0 : Int) + 1 = (q : Int) by omega])
              rw [← hq'] at hq HUP HLOW HQ
              (try rw [← hq'])
              clear hq'
              obtain ⟨A0, hA0⟩ : ∃ A0 : Option Addr, A0 = some ⟨b5, off5, none⟩ := ⟨_, rfl⟩
              rw [← hA0] at HRH ⊢
              clear hA0
              have hkl : (q : Int) ≤ (H.length : Int) := by omega
              have hkc : (q : Int) ≤ (c0 : Int) := by have := unhid HCH; omega
              have hk0 : (0 : Int) ≤ (q : Int) := by omega
              have hlc : (H.length : Int) ≤ (c0 : Int) := by have := unhid HCH; omega
              have HSF := hid (show ∀ w', Below wq.heap.size wq w' → (w'.cell? ⟨b, off + k * 14, none⟩ = some (.int .i64 x.tab) ∧ w'.cell? ⟨b, off + k * 14 + 1, none⟩ = some (.int .i64 x.num) ∧ w'.cell? ⟨b, off + k * 14 + 2, none⟩ = some (.int .i64 x.hour) ∧ w'.cell? ⟨b, off + k * 14 + 3, none⟩ = some (.int .i64 x.sign) ∧ w'.cell? ⟨b, off + k * 14 + 4, none⟩ = some (.int .i64 x.fld) ∧ w'.cell? ⟨b, off + k * 14 + 5, none⟩ = some (.int .i64 x.val) ∧ w'.cell? ⟨b, off + k * 14 + 6, none⟩ = some (.int .i64 x.s0) ∧ w'.cell? ⟨b, off + k * 14 + 7, none⟩ = some (.int .i64 x.s1) ∧ w'.cell? ⟨b, off + k * 14 + 8, none⟩ = some (.int .i64 x.s2) ∧ w'.cell? ⟨b, off + k * 14 + 9, none⟩ = some (.int .i64 x.s3) ∧ w'.cell? ⟨b, off + k * 14 + 10, none⟩ = some (.int .i64 x.s4) ∧ w'.cell? ⟨b, off + k * 14 + 11, none⟩ = some (.int .i64 x.s5) ∧ w'.cell? ⟨b, off + k * 14 + 12, none⟩ = some (.int .i64 x.s6) ∧ w'.cell? ⟨b, off + k * 14 + 13, none⟩ = some (.int .i64 x.s7)) from fun w' hb => rec_at14 (unhid HAT _ ((unhid HB).trans (hb.mono (unhid HB).size))).2 hlt (unhid HX))
              refine wp_region_noPanic ?_
              refine wp_region_E (S := fun w' => (w'.cell? ⟨b, off + k * 14, none⟩ = some (.int .i64 x.tab) ∧ w'.cell? ⟨b, off + k * 14 + 1, none⟩ = some (.int .i64 x.num) ∧ w'.cell? ⟨b, off + k * 14 + 2, none⟩ = some (.int .i64 x.hour) ∧ w'.cell? ⟨b, off + k * 14 + 3, none⟩ = some (.int .i64 x.sign) ∧ w'.cell? ⟨b, off + k * 14 + 4, none⟩ = some (.int .i64 x.fld) ∧ w'.cell? ⟨b, off + k * 14 + 5, none⟩ = some (.int .i64 x.val) ∧ w'.cell? ⟨b, off + k * 14 + 6, none⟩ = some (.int .i64 x.s0) ∧ w'.cell? ⟨b, off + k * 14 + 7, none⟩ = some (.int .i64 x.s1) ∧ w'.cell? ⟨b, off + k * 14 + 8, none⟩ = some (.int .i64 x.s2) ∧ w'.cell? ⟨b, off + k * 14 + 9, none⟩ = some (.int .i64 x.s3) ∧ w'.cell? ⟨b, off + k * 14 + 10, none⟩ = some (.int .i64 x.s4) ∧ w'.cell? ⟨b, off + k * 14 + 11, none⟩ = some (.int .i64 x.s5) ∧ w'.cell? ⟨b, off + k * 14 + 12, none⟩ = some (.int .i64 x.s6) ∧ w'.cell? ⟨b, off + k * 14 + 13, none⟩ = some (.int .i64 x.s7))) 14 15 rfl (by kernel_rfl) (by kernel_rfl) ((unhid HSF) _ (Below.drew (Below.refl _ _))) ?_
              intro hSE
              have HBe := hid (Below.drew (Below.refl wq.heap.size wq))
              generalize wq.drew = Wd at *
              (refine WE_take (i := 0) (v := ?_) rfl (by kernel_rfl) (by decide) (by kernel_rfl) (by kernel_rfl) (fun _ _ _ h => h) (by rfl) hSE ?_ ?_; rotate_left; (focus (intro w hSw; (try dsimp only at hSw); go_simp; (try with_reducible rfl))); simp only [Act.put, List.setIfInBounds_toArray, List.set_cons_zero, List.set_cons_succ])
              (refine WE_take (i := 1) (v := ?_) rfl (by kernel_rfl) (by decide) (by kernel_rfl) (by kernel_rfl) (fun _ _ _ h => h) (by rfl) hSE ?_ ?_; rotate_left; (focus (intro w hSw; (try dsimp only at hSw); go_simp; (try with_reducible rfl))); simp only [Act.put, List.setIfInBounds_toArray, List.set_cons_zero, List.set_cons_succ])
              (refine WE_take (i := 2) (v := ?_) rfl (by kernel_rfl) (by decide) (by kernel_rfl) (by kernel_rfl) (fun _ _ _ h => h) (by rfl) hSE ?_ ?_; rotate_left; (focus (intro w hSw; (try dsimp only at hSw); go_simp; (try with_reducible rfl))); simp only [Act.put, List.setIfInBounds_toArray, List.set_cons_zero, List.set_cons_succ])
              (refine WE_take (i := 3) (v := ?_) rfl (by kernel_rfl) (by decide) (by kernel_rfl) (by kernel_rfl) (fun _ _ _ h => h) (by rfl) hSE ?_ ?_; rotate_left; (focus (intro w hSw; (try dsimp only at hSw); go_simp; (try with_reducible rfl))); simp only [Act.put, List.setIfInBounds_toArray, List.set_cons_zero, List.set_cons_succ])
              (refine WE_take (i := 4) (v := ?_) rfl (by kernel_rfl) (by decide) (by kernel_rfl) (by kernel_rfl) (fun _ _ _ h => h) (by rfl) hSE ?_ ?_; rotate_left; (focus (intro w hSw; (try dsimp only at hSw); go_simp; (try with_reducible rfl))); simp only [Act.put, List.setIfInBounds_toArray, List.set_cons_zero, List.set_cons_succ])
              (refine WE_take (i := 5) (v := ?_) rfl (by kernel_rfl) (by decide) (by kernel_rfl) (by kernel_rfl) (fun _ _ _ h => h) (by rfl) hSE ?_ ?_; rotate_left; (focus (intro w hSw; (try dsimp only at hSw); go_simp; (try with_reducible rfl))); simp only [Act.put, List.setIfInBounds_toArray, List.set_cons_zero, List.set_cons_succ])
              (refine WE_take (i := 6) (v := ?_) rfl (by kernel_rfl) (by decide) (by kernel_rfl) (by kernel_rfl) (fun _ _ _ h => h) (by rfl) hSE ?_ ?_; rotate_left; (focus (intro w hSw; (try dsimp only at hSw); go_simp; (try with_reducible rfl))); simp only [Act.put, List.setIfInBounds_toArray, List.set_cons_zero, List.set_cons_succ])
              (refine WE_take (i := 7) (v := ?_) rfl (by kernel_rfl) (by decide) (by kernel_rfl) (by kernel_rfl) (fun _ _ _ h => h) (by rfl) hSE ?_ ?_; rotate_left; (focus (intro w hSw; (try dsimp only at hSw); go_simp; (try with_reducible rfl))); simp only [Act.put, List.setIfInBounds_toArray, List.set_cons_zero, List.set_cons_succ])
              (refine WE_take (i := 9) (v := ?_) rfl (by kernel_rfl) (by decide) (by kernel_rfl) (by kernel_rfl) (fun _ _ _ h => h) (by rfl) hSE ?_ ?_; rotate_left; (focus (intro w hSw; (try dsimp only at hSw); go_simp; (try with_reducible rfl))); simp only [Act.put, List.setIfInBounds_toArray, List.set_cons_zero, List.set_cons_succ])
              (refine WE_take (i := 10) (v := ?_) rfl (by kernel_rfl) (by decide) (by kernel_rfl) (by kernel_rfl) (fun _ _ _ h => h) (by rfl) hSE ?_ ?_; rotate_left; (focus (intro w hSw; (try dsimp only at hSw); go_simp; (try with_reducible rfl))); simp only [Act.put, List.setIfInBounds_toArray, List.set_cons_zero, List.set_cons_succ])
              (refine WE_take (i := 11) (v := ?_) rfl (by kernel_rfl) (by decide) (by kernel_rfl) (by kernel_rfl) (fun _ _ _ h => h) (by rfl) hSE ?_ ?_; rotate_left; (focus (intro w hSw; (try dsimp only at hSw); go_simp; (try with_reducible rfl))); simp only [Act.put, List.setIfInBounds_toArray, List.set_cons_zero, List.set_cons_succ])
              (refine WE_one (i := 8) rfl (by decide) (by kernel_rfl) ?_; intro K hK)
              go_simp
              change K _ (Wd.alloc (.cells (rcA x) 82))
              have HNR := hid (show Rd (Wd.alloc (.cells (rcA x) 82)) (some ⟨Wd.heap.size, 0, none⟩) (rcC x) from fun _ => ⟨Wd.heap.size, 0, rfl, by simp, fun j u hu => by
                rw [Nat.zero_add, World.cell?_alloc_new]
                rw [← Array.getElem?_toList]
                exact hu⟩)
              obtain ⟨Bn, hBn⟩ : ∃ Bn, Bn = Wd.heap.size := ⟨_, rfl⟩
              rw [← hBn] at HNR ⊢
              have HBe := hid ((unhid HBe).alloc (unhid HBe).size (.cells (rcA x) 82))
              refine hK.out _ _ ((unhid HSF) _ (unhid HBe)) ?_
              clear hSE hK K hBn
              intro hSE
              (try simp only [Act.put, List.setIfInBounds_toArray, List.set_cons_zero, List.set_cons_succ])
              generalize Wd.alloc (.cells (rcA x) 82) = Wa at *
              have HCUT := hid (((unhid HRH).below (unhid HBe)).cut q 14 c0 (fun h => by rw [recs_len] at h; have := unhid HCH; omega))
              have HDL := hid (show ((recs H).drop (q * 14)).length = (H.length - q) * 14 from by rw [List.length_drop, recs_len]; omega)
              have HTL := hid (show ((recs H).take (q * 14)).length = q * 14 from by rw [List.length_take, recs_len]; have := unhid HQ; omega)
              have HDO := hid (show ∀ u ∈ (recs H).drop (q * 14), u.oneCell' = true from fun u hu => recs_cell1 H u (List.mem_of_mem_drop hu))
              have HYO := hid (show ∀ u ∈ rcC x ++ (recs H).drop (q * 14), u.oneCell' = true from fun u hu => by
                rcases List.mem_append.1 hu with h | h
                · exact recs_cell1 [x] u (by rw [recs_one]; exact h)
                · exact unhid HDO u h)
              have HYL := hid (show (rcC x ++ (recs H).drop (q * 14)).length = (1 + (H.length - q)) * 14 from by
                rw [List.length_append, unhid HDL]
                show 14 + _ = _
                omega)
              have HNK := hid (show A0 = none → q = 0 from fun h => by
                rcases Nat.eq_zero_or_pos q with h0 | h0
                · exact h0
                · obtain ⟨b7, off7, e, -⟩ := (unhid HRH) (recs_ne (k := 0) (L := H) (by have := unhid HQ; omega))
                  rw [h] at e; cases e)
              have HB1 := hid (show 1 + (H.length - q) ≤ maxLen ∧ (1 + (H.length - q)) * 112 ≤ 140737488355328 from by have := unhid HHL; have := unhid HLL; unfold maxLen; omega)
              have HB3 := hid (show q + (1 + (H.length - q)) ≤ maxLen ∧ (q + (1 + (H.length - q))) * 112 ≤ 140737488355328 ∧ q ≤ maxLen from by have := unhid HHL; have := unhid HLL; have := unhid HQ; unfold maxLen; omega)
              (refine WE_one (i := 12) rfl (by decide) (by kernel_rfl) ?_; intro K hK)
              refine step_app (by rfl) _ _ _ (by rfl) 82 i0 _ 14 112 Tryz.underlying22 hi hz0 hz1 hz2 rfl (by omega) (some ⟨Bn, 0, none⟩) 1 1 (rcC x) (by rfl) (unhid HNR) (by rfl) (fun h => by cases h) (Nat.le_refl _) (by unfold maxLen; omega) _ (H.length - q) (c0 - q) ((recs H).drop (q * 14)) (by rfl) (unhid HCUT) (unhid HDL) (unhid HDO) (by omega) (unhid HB1).1 (unhid HB1).2 ?_
              intro A3 c3 w3 hr3 hle3 hcm3 hn3 hg3
              have HR3 := hid hr3
              have HBe := hid ((unhid HBe).trans ((below_of_grown hg3).mono (unhid HBe).size))
              clear hr3 hg3 hle3 hcm3 hn3
              refine hK.out _ _ ((unhid HSF) _ (unhid HBe)) ?_
              clear hSE hK K
              intro hSE
              (try simp only [Act.put, List.setIfInBounds_toArray, List.set_cons_zero, List.set_cons_succ])
              have HRT := hid (((unhid HRH).below (unhid HBe)).take (q * 14))
              (refine WE_one (i := 13) rfl (by decide) (by kernel_rfl) ?_; intro K hK)
              refine step_app (by rfl) _ _ _ (by rfl) 82 i0 _ 14 112 Tryz.underlying22 hi hz0 hz1 hz2 rfl (by omega) A0 q q ((recs H).take (q * 14)) (by rfl) (unhid HRT) (unhid HTL) (unhid HNK) (Nat.le_refl _) (unhid HB3).2.2 A3 (1 + (H.length - q)) c3 (rcC x ++ (recs H).drop (q * 14)) (by rfl) (unhid HR3) (unhid HYL) (unhid HYO) (.inr (by omega)) (unhid HB3).1 (unhid HB3).2.1 ?_
              intro A4 c4 w4 hr4 hle4 hcm4 hn4 hg4
              have HBe := hid ((unhid HBe).trans ((below_of_grown hg4).mono (unhid HBe).size))
              have HN := hid (show HiI w2 C s (k + 1) (.slice A4 (q + (1 + (H.length - q))) c4) w4 from by
                have hq' := unhid HQ
                have hlen : (H.take q ++ x :: H.drop q).length = q + (1 + (H.length - q)) := by
                  rw [List.length_append, List.length_cons, List.length_take, List.length_drop]
                  omega
                obtain ⟨g1, g2⟩ := his_ins (unhid HAS) hlt (unhid HX) (unhid HS) (unhid HPH) (unhid HWH) hq' (unhid HLOW) (unhid HUP)
                refine ⟨⟨A4, c4, H.take q ++ x :: H.drop q, by rw [hlen], ?_, by rw [hlen]; exact hle4, g1, g2⟩, (unhid HB).trans ((unhid HBe).mono (unhid HB).size)⟩
                have e : recs (H.take q ++ x :: H.drop q) = (recs H).take (q * 14) ++ (rcC x ++ (recs H).drop (q * 14)) := by
                  rw [recs_append, ← recs_take H hq', ← recs_drop H hq']; rfl
                rw [e]
                exact hr4)
              clear hr4 hg4 hle4 hcm4 hn4
              refine hK.out _ _ ((unhid HSF) _ (unhid HBe)) ?_
              clear hSE hK K
              intro hSE
              (try simp only [Act.put, List.setIfInBounds_toArray, List.set_cons_zero, List.set_cons_succ])
              (refine WE_last rfl (by kernel_rfl) (by kernel_rfl) (by kernel_rfl) ?_; intro K hK; go_simp; refine hK.out _ _ (NoPanic.normal ?_); clear hK K)
              clear hSE HSF
              go_wp2_with fail
              go_roundw
              case rel => exact ⟨k + 1, by omega, by go_num, unhid HN⟩
              case measure => simp [intOf]; omega
      · have hsn : (x.sign != s) = true := by simpa using hs
        have HN := hid (show HiI w2 C s (k + 1) (.slice A0 H.length c0) wr from ⟨⟨A0, c0, H, rfl, unhid HRH, unhid HCH, by rw [keepS_no hlt (by rw [unhid HX]; exact hs)]; exact unhid HPH, unhid HWH⟩, unhid HB⟩)
        clear hs
        go_wp2_with fail
        go_roundw
        case rel => exact ⟨k + 1, by omega, by go_num, unhid HN⟩
        case measure => simp [intOf]; omega
    · obtain rfl : k = C.length := by omega
      have HP := hid (show RHisPost w L s (.returned (.slice A0 H.length c0)) wr from ⟨A0, c0, H, rfl, unhid HE H (unhid HPH) (unhid HWH), unhid HRH, (unhid HB2).trans ((unhid HB).mono (unhid HB2).size)⟩)
      go_wp2_with fail
      go_ret
      exact unhid HP
end

section
open Go.RowKit Go.Shelf

theorem bk_asc {w : World} {B m : Nat} {S T : List Rc} (h : BkAt w B m S) (hA : Asc T) (hm : ∀ r, r ∈ S ↔ r ∈ T) : BkAt w B m T :=
  h.perm ((List.perm_ext_iff_of_nodup (RSet.nodup h.m) hA.nodup).2 hm)

set_option maxHeartbeats 16000000 in
set_option maxRecDepth 100000 in
theorem lshows_calls (l : List Rc) (A : Option Addr) (c : Nat) (sign fld : Int) (w : World) (h : RecsIn w A l c) (_ : I64 sign) (_ : I64 fld) :
    Calls Tryz.prog 5 #[.slice A l.length c, .int .i64 sign, .int .i64 fld] w fun e w' => e = .returned (.bool true) ∧ Below w.heap.size w w' := by
  have HRD := hid h.rd
  clear h
  go_enter Tryz.func5, Tryz.ntmps5
  by_cases hn : 24 < l.length
  · have hni : (24 : Int) < (l.length : Int) := by omega
    go_wp2_with fail
    refine (first_calls w).mono ?_
    rintro e w2 ⟨rfl, hb2⟩
    have HB := hid hb2
    clear hb2
    go_wp2_with fail
    go_ret
    exact ⟨rfl, unhid HB⟩
  · have hni : ¬ (24 : Int) < (l.length : Int) := by omega
    have HLL := hid (show l.length ≤ 24 from by omega)
    go_wp2_with fail
    refine (made_calls l A c w (unhid HRD) (by have := unhid HLL; omega)).mono ?_
    rintro e W ⟨B, m, B2, S, L, rfl, ht⟩
    have HK := hid (bk_asc ht.bk ht.rb.asc ht.same)
    have HR := hid ht.rb
    have HAL := hid ht.rb.asc
    have HB0 := hid ht.b
    have HLE := hid (show L.length ≤ 24 from by have := ht.lL; have := unhid HLL; omega)
    clear ht hn hni
    cases hbs : btw 1 sign 1000000000 with
    | false =>
      have HBS := hid hbs
      have hsg : sign < 1 ∨ 1000000000 < sign := by
        have h1 : ¬ (1 ≤ sign ∧ sign ≤ 1000000000) := fun h => by
          rw [btw_iff.2 h] at hbs
          cases hbs
        omega
      clear hbs
      by_cases g1 : sign < 1
      · clear hsg
        by_cases g3 : fld < 1
        · have HCN := hid (show (btw 1 sign 1000000000 && btw 1 fld 6) = false from by rw [unhid HBS]; rfl)
          go_wp2_with fail
          refine (pvalues_calls sign fld W (unhid HK) (unhid HAL) (by have := unhid HLE; omega)).mono ?_
          rintro e W1 ⟨v, rfl, hrow, hb⟩
          simp only [unhid HCN, if_true, Bool.false_eq_true, if_false] at hrow ⊢
          obtain ⟨Av, cv, rfl, hrd, -⟩ := own_slice hrow
          have HRV := hid hrd
          have HK := hid ((unhid HK).below' hb)
          have HR := hid ((unhid HR).below hb)
          have HB0 := hid ((unhid HB0).trans (hb.mono (unhid HB0).size))
          clear hrow hb hrd
          go_wp2_with fail
          refine (historyNo_calls sign (unhid HBS) W1 (unhid HK)).mono ?_
          rintro e W2 ⟨rfl, hb⟩
          have HRX := hid (Rd.nil W2 none : Rd W2 none (ints []))
          have HRH := hid (Rd.nil W2 none : Rd W2 none (recs []))
          have HRY := HRH
          have HVL := hid (show ([] : List Int).length ≤ 1000000 from by simp)
          have HHL := hid (show ([] : List Rc).length ≤ 1000000 from by simp)
          have HK := hid ((unhid HK).below' hb)
          have HR := hid ((unhid HR).below hb)
          have HB0 := hid ((unhid HB0).trans (hb.mono (unhid HB0).size))
          have HRV := hid ((unhid HRV).below hb)
          clear hb
          have hs1 : sign < 1 := by omega
          have hf1 : fld < 1 := by omega
          go_wp2_with fail
          refine (sameInts_calls ([] : List Int) ([] : List Int) Av none cv 0 W2 (unhid HRV) (unhid HRX) (unhid HVL)).mono ?_
          rintro e w5 ⟨rfl, hb⟩
          rw [decide_eq_true (rfl : ([] : List Int) = ([] : List Int))]
          have HK := hid ((unhid HK).below' hb)
          have HR := hid ((unhid HR).below hb)
          have HB0 := hid ((unhid HB0).trans (hb.mono (unhid HB0).size))
          have HRH := hid ((unhid HRH).below hb)
          have HRY := hid ((unhid HRY).below hb)
          clear hb
          go_wp2_with fail
          refine (sameRecords_calls ([] : List Rc) ([] : List Rc) none none 0 0 w5 (unhid HRH) (unhid HRY) (unhid HHL)).mono ?_
          rintro e w6 ⟨rfl, hb⟩
          rw [decide_eq_true (rfl : ([] : List Rc) = ([] : List Rc))]
          have HK := hid ((unhid HK).below' hb)
          have HR := hid ((unhid HR).below hb)
          have HB0 := hid ((unhid HB0).trans (hb.mono (unhid HB0).size))
          clear hb
          go_wp2_with fail
          refine (disputes_calls w6 (unhid HK) (by have := unhid HLE; omega) (unhid HAL) (fun _ => Iff.rfl)).mono ?_
          rintro e w7 ⟨v, D1, rfl, hD1, hl1, hrow, hb⟩
          obtain ⟨Ad, cd, rfl, hrd, -⟩ := own_slice hrow
          have HRD1 := hid hrd
          have HD1 := hid hD1
          have HDL := hid (show D1.length ≤ 1000000 from by have := unhid HLE; omega)
          have HK := hid ((unhid HK).below' hb)
          have HR := hid ((unhid HR).below hb)
          have HB0 := hid ((unhid HB0).trans (hb.mono (unhid HB0).size))
          clear hrow hb hrd hD1 hl1
          go_wp2_with fail
          refine (rdisputes_calls w7 (unhid HR) (by have := unhid HLE; omega)).mono ?_
          rintro e w8 ⟨v, D2, rfl, hD2, -, hrow, hb⟩
          obtain rfl : D1 = D2 := dispIs_eq (unhid HD1) hD2
          obtain ⟨Ae, ce, rfl, hrd, -⟩ := own_slice hrow
          have HRD2 := hid hrd
          have HK := hid ((unhid HK).below' hb)
          have HR := hid ((unhid HR).below hb)
          have HB0 := hid ((unhid HB0).trans (hb.mono (unhid HB0).size))
          have HRD1 := hid ((unhid HRD1).below hb)
          clear hrow hb hrd hD2
          go_wp2_with fail
          refine (sameCases_calls D1 D1 Ad Ae cd ce w8 (unhid HRD1) (unhid HRD2) (unhid HDL)).mono ?_
          rintro e w9 ⟨rfl, hb⟩
          rw [decide_eq_true (rfl : D1 = D1)]
          have HK := hid ((unhid HK).below' hb)
          have HR := hid ((unhid HR).below hb)
          have HB0 := hid ((unhid HB0).trans (hb.mono (unhid HB0).size))
          clear hb HRD1 HRD2
          go_wp2_with fail
          refine (signs_calls w9 (unhid HK) (by have := unhid HLE; omega) (unhid HAL) (fun _ => Iff.rfl)).mono ?_
          rintro e w10 ⟨v, rfl, hl1, hrow, hb⟩
          obtain ⟨As, cs, rfl, hrd, -⟩ := own_slice hrow
          have HRS1 := hid hrd
          have HSL := hid (show (signsP L).length ≤ 1000000 from by have := unhid HLE; omega)
          have HK := hid ((unhid HK).below' hb)
          have HR := hid ((unhid HR).below hb)
          have HB0 := hid ((unhid HB0).trans (hb.mono (unhid HB0).size))
          clear hrow hb hrd hl1
          go_wp2_with fail
          refine (rsigns_calls w10 (unhid HR) (by have := unhid HLE; omega)).mono ?_
          rintro e w11 ⟨At, ct, rfl, hrd, hb⟩
          have HRS2 := hid hrd
          have HK := hid ((unhid HK).below' hb)
          have HR := hid ((unhid HR).below hb)
          have HB0 := hid ((unhid HB0).trans (hb.mono (unhid HB0).size))
          have HRS1 := hid ((unhid HRS1).below hb)
          clear hb hrd
          go_wp2_with fail
          refine (sameInts_calls (signsP L) (signsP L) As At cs ct w11 (unhid HRS1) (unhid HRS2) (unhid HSL)).mono ?_
          rintro e w12 ⟨rfl, hb⟩
          rw [decide_eq_true (rfl : signsP L = signsP L)]
          have HK := hid ((unhid HK).below' hb)
          have HR := hid ((unhid HR).below hb)
          have HB0 := hid ((unhid HB0).trans (hb.mono (unhid HB0).size))
          clear hb
          go_wp2_with fail
          refine (first_calls w12).mono ?_
          rintro e w13 ⟨rfl, hb⟩
          have HB := hid ((unhid HB0).trans (hb.mono (unhid HB0).size))
          clear hb
          go_wp2_with fail
          go_ret
          exact ⟨rfl, unhid HB⟩
        · by_cases g4 : 6 < fld
          · have HCN := hid (show (btw 1 sign 1000000000 && btw 1 fld 6) = false from by rw [unhid HBS]; rfl)
            go_wp2_with fail
            refine (pvalues_calls sign fld W (unhid HK) (unhid HAL) (by have := unhid HLE; omega)).mono ?_
            rintro e W1 ⟨v, rfl, hrow, hb⟩
            simp only [unhid HCN, if_true, Bool.false_eq_true, if_false] at hrow ⊢
            obtain ⟨Av, cv, rfl, hrd, -⟩ := own_slice hrow
            have HRV := hid hrd
            have HK := hid ((unhid HK).below' hb)
            have HR := hid ((unhid HR).below hb)
            have HB0 := hid ((unhid HB0).trans (hb.mono (unhid HB0).size))
            clear hrow hb hrd
            go_wp2_with fail
            refine (historyNo_calls sign (unhid HBS) W1 (unhid HK)).mono ?_
            rintro e W2 ⟨rfl, hb⟩
            have HRX := hid (Rd.nil W2 none : Rd W2 none (ints []))
            have HRH := hid (Rd.nil W2 none : Rd W2 none (recs []))
            have HRY := HRH
            have HVL := hid (show ([] : List Int).length ≤ 1000000 from by simp)
            have HHL := hid (show ([] : List Rc).length ≤ 1000000 from by simp)
            have HK := hid ((unhid HK).below' hb)
            have HR := hid ((unhid HR).below hb)
            have HB0 := hid ((unhid HB0).trans (hb.mono (unhid HB0).size))
            have HRV := hid ((unhid HRV).below hb)
            clear hb
            have hs1 : sign < 1 := by omega
            have hf1 : ¬ fld < 1 := by omega
            have hf2 : 6 < fld := by omega
            go_wp2_with fail
            refine (sameInts_calls ([] : List Int) ([] : List Int) Av none cv 0 W2 (unhid HRV) (unhid HRX) (unhid HVL)).mono ?_
            rintro e w5 ⟨rfl, hb⟩
            rw [decide_eq_true (rfl : ([] : List Int) = ([] : List Int))]
            have HK := hid ((unhid HK).below' hb)
            have HR := hid ((unhid HR).below hb)
            have HB0 := hid ((unhid HB0).trans (hb.mono (unhid HB0).size))
            have HRH := hid ((unhid HRH).below hb)
            have HRY := hid ((unhid HRY).below hb)
            clear hb
            go_wp2_with fail
            refine (sameRecords_calls ([] : List Rc) ([] : List Rc) none none 0 0 w5 (unhid HRH) (unhid HRY) (unhid HHL)).mono ?_
            rintro e w6 ⟨rfl, hb⟩
            rw [decide_eq_true (rfl : ([] : List Rc) = ([] : List Rc))]
            have HK := hid ((unhid HK).below' hb)
            have HR := hid ((unhid HR).below hb)
            have HB0 := hid ((unhid HB0).trans (hb.mono (unhid HB0).size))
            clear hb
            go_wp2_with fail
            refine (disputes_calls w6 (unhid HK) (by have := unhid HLE; omega) (unhid HAL) (fun _ => Iff.rfl)).mono ?_
            rintro e w7 ⟨v, D1, rfl, hD1, hl1, hrow, hb⟩
            obtain ⟨Ad, cd, rfl, hrd, -⟩ := own_slice hrow
            have HRD1 := hid hrd
            have HD1 := hid hD1
            have HDL := hid (show D1.length ≤ 1000000 from by have := unhid HLE; omega)
            have HK := hid ((unhid HK).below' hb)
            have HR := hid ((unhid HR).below hb)
            have HB0 := hid ((unhid HB0).trans (hb.mono (unhid HB0).size))
            clear hrow hb hrd hD1 hl1
            go_wp2_with fail
            refine (rdisputes_calls w7 (unhid HR) (by have := unhid HLE; omega)).mono ?_
            rintro e w8 ⟨v, D2, rfl, hD2, -, hrow, hb⟩
            obtain rfl : D1 = D2 := dispIs_eq (unhid HD1) hD2
            obtain ⟨Ae, ce, rfl, hrd, -⟩ := own_slice hrow
            have HRD2 := hid hrd
            have HK := hid ((unhid HK).below' hb)
            have HR := hid ((unhid HR).below hb)
            have HB0 := hid ((unhid HB0).trans (hb.mono (unhid HB0).size))
            have HRD1 := hid ((unhid HRD1).below hb)
            clear hrow hb hrd hD2
            go_wp2_with fail
            refine (sameCases_calls D1 D1 Ad Ae cd ce w8 (unhid HRD1) (unhid HRD2) (unhid HDL)).mono ?_
            rintro e w9 ⟨rfl, hb⟩
            rw [decide_eq_true (rfl : D1 = D1)]
            have HK := hid ((unhid HK).below' hb)
            have HR := hid ((unhid HR).below hb)
            have HB0 := hid ((unhid HB0).trans (hb.mono (unhid HB0).size))
            clear hb HRD1 HRD2
            go_wp2_with fail
            refine (signs_calls w9 (unhid HK) (by have := unhid HLE; omega) (unhid HAL) (fun _ => Iff.rfl)).mono ?_
            rintro e w10 ⟨v, rfl, hl1, hrow, hb⟩
            obtain ⟨As, cs, rfl, hrd, -⟩ := own_slice hrow
            have HRS1 := hid hrd
            have HSL := hid (show (signsP L).length ≤ 1000000 from by have := unhid HLE; omega)
            have HK := hid ((unhid HK).below' hb)
            have HR := hid ((unhid HR).below hb)
            have HB0 := hid ((unhid HB0).trans (hb.mono (unhid HB0).size))
            clear hrow hb hrd hl1
            go_wp2_with fail
            refine (rsigns_calls w10 (unhid HR) (by have := unhid HLE; omega)).mono ?_
            rintro e w11 ⟨At, ct, rfl, hrd, hb⟩
            have HRS2 := hid hrd
            have HK := hid ((unhid HK).below' hb)
            have HR := hid ((unhid HR).below hb)
            have HB0 := hid ((unhid HB0).trans (hb.mono (unhid HB0).size))
            have HRS1 := hid ((unhid HRS1).below hb)
            clear hb hrd
            go_wp2_with fail
            refine (sameInts_calls (signsP L) (signsP L) As At cs ct w11 (unhid HRS1) (unhid HRS2) (unhid HSL)).mono ?_
            rintro e w12 ⟨rfl, hb⟩
            rw [decide_eq_true (rfl : signsP L = signsP L)]
            have HK := hid ((unhid HK).below' hb)
            have HR := hid ((unhid HR).below hb)
            have HB0 := hid ((unhid HB0).trans (hb.mono (unhid HB0).size))
            clear hb
            go_wp2_with fail
            refine (first_calls w12).mono ?_
            rintro e w13 ⟨rfl, hb⟩
            have HB := hid ((unhid HB0).trans (hb.mono (unhid HB0).size))
            clear hb
            go_wp2_with fail
            go_ret
            exact ⟨rfl, unhid HB⟩
          · have HCN := hid (show (btw 1 sign 1000000000 && btw 1 fld 6) = false from by rw [unhid HBS]; rfl)
            go_wp2_with fail
            refine (pvalues_calls sign fld W (unhid HK) (unhid HAL) (by have := unhid HLE; omega)).mono ?_
            rintro e W1 ⟨v, rfl, hrow, hb⟩
            simp only [unhid HCN, if_true, Bool.false_eq_true, if_false] at hrow ⊢
            obtain ⟨Av, cv, rfl, hrd, -⟩ := own_slice hrow
            have HRV := hid hrd
            have HK := hid ((unhid HK).below' hb)
            have HR := hid ((unhid HR).below hb)
            have HB0 := hid ((unhid HB0).trans (hb.mono (unhid HB0).size))
            clear hrow hb hrd
            go_wp2_with fail
            refine (historyNo_calls sign (unhid HBS) W1 (unhid HK)).mono ?_
            rintro e W2 ⟨rfl, hb⟩
            have HRX := hid (Rd.nil W2 none : Rd W2 none (ints []))
            have HRH := hid (Rd.nil W2 none : Rd W2 none (recs []))
            have HRY := HRH
            have HVL := hid (show ([] : List Int).length ≤ 1000000 from by simp)
            have HHL := hid (show ([] : List Rc).length ≤ 1000000 from by simp)
            have HK := hid ((unhid HK).below' hb)
            have HR := hid ((unhid HR).below hb)
            have HB0 := hid ((unhid HB0).trans (hb.mono (unhid HB0).size))
            have HRV := hid ((unhid HRV).below hb)
            clear hb
            have hs1 : sign < 1 := by omega
            have hf1 : ¬ fld < 1 := by omega
            have hf2 : ¬ 6 < fld := by omega
            go_wp2_with fail
            refine (sameInts_calls ([] : List Int) ([] : List Int) Av none cv 0 W2 (unhid HRV) (unhid HRX) (unhid HVL)).mono ?_
            rintro e w5 ⟨rfl, hb⟩
            rw [decide_eq_true (rfl : ([] : List Int) = ([] : List Int))]
            have HK := hid ((unhid HK).below' hb)
            have HR := hid ((unhid HR).below hb)
            have HB0 := hid ((unhid HB0).trans (hb.mono (unhid HB0).size))
            have HRH := hid ((unhid HRH).below hb)
            have HRY := hid ((unhid HRY).below hb)
            clear hb
            go_wp2_with fail
            refine (sameRecords_calls ([] : List Rc) ([] : List Rc) none none 0 0 w5 (unhid HRH) (unhid HRY) (unhid HHL)).mono ?_
            rintro e w6 ⟨rfl, hb⟩
            rw [decide_eq_true (rfl : ([] : List Rc) = ([] : List Rc))]
            have HK := hid ((unhid HK).below' hb)
            have HR := hid ((unhid HR).below hb)
            have HB0 := hid ((unhid HB0).trans (hb.mono (unhid HB0).size))
            clear hb
            go_wp2_with fail
            refine (disputes_calls w6 (unhid HK) (by have := unhid HLE; omega) (unhid HAL) (fun _ => Iff.rfl)).mono ?_
            rintro e w7 ⟨v, D1, rfl, hD1, hl1, hrow, hb⟩
            obtain ⟨Ad, cd, rfl, hrd, -⟩ := own_slice hrow
            have HRD1 := hid hrd
            have HD1 := hid hD1
            have HDL := hid (show D1.length ≤ 1000000 from by have := unhid HLE; omega)
            have HK := hid ((unhid HK).below' hb)
            have HR := hid ((unhid HR).below hb)
            have HB0 := hid ((unhid HB0).trans (hb.mono (unhid HB0).size))
            clear hrow hb hrd hD1 hl1
            go_wp2_with fail
            refine (rdisputes_calls w7 (unhid HR) (by have := unhid HLE; omega)).mono ?_
            rintro e w8 ⟨v, D2, rfl, hD2, -, hrow, hb⟩
            obtain rfl : D1 = D2 := dispIs_eq (unhid HD1) hD2
            obtain ⟨Ae, ce, rfl, hrd, -⟩ := own_slice hrow
            have HRD2 := hid hrd
            have HK := hid ((unhid HK).below' hb)
            have HR := hid ((unhid HR).below hb)
            have HB0 := hid ((unhid HB0).trans (hb.mono (unhid HB0).size))
            have HRD1 := hid ((unhid HRD1).below hb)
            clear hrow hb hrd hD2
            go_wp2_with fail
            refine (sameCases_calls D1 D1 Ad Ae cd ce w8 (unhid HRD1) (unhid HRD2) (unhid HDL)).mono ?_
            rintro e w9 ⟨rfl, hb⟩
            rw [decide_eq_true (rfl : D1 = D1)]
            have HK := hid ((unhid HK).below' hb)
            have HR := hid ((unhid HR).below hb)
            have HB0 := hid ((unhid HB0).trans (hb.mono (unhid HB0).size))
            clear hb HRD1 HRD2
            go_wp2_with fail
            refine (signs_calls w9 (unhid HK) (by have := unhid HLE; omega) (unhid HAL) (fun _ => Iff.rfl)).mono ?_
            rintro e w10 ⟨v, rfl, hl1, hrow, hb⟩
            obtain ⟨As, cs, rfl, hrd, -⟩ := own_slice hrow
            have HRS1 := hid hrd
            have HSL := hid (show (signsP L).length ≤ 1000000 from by have := unhid HLE; omega)
            have HK := hid ((unhid HK).below' hb)
            have HR := hid ((unhid HR).below hb)
            have HB0 := hid ((unhid HB0).trans (hb.mono (unhid HB0).size))
            clear hrow hb hrd hl1
            go_wp2_with fail
            refine (rsigns_calls w10 (unhid HR) (by have := unhid HLE; omega)).mono ?_
            rintro e w11 ⟨At, ct, rfl, hrd, hb⟩
            have HRS2 := hid hrd
            have HK := hid ((unhid HK).below' hb)
            have HR := hid ((unhid HR).below hb)
            have HB0 := hid ((unhid HB0).trans (hb.mono (unhid HB0).size))
            have HRS1 := hid ((unhid HRS1).below hb)
            clear hb hrd
            go_wp2_with fail
            refine (sameInts_calls (signsP L) (signsP L) As At cs ct w11 (unhid HRS1) (unhid HRS2) (unhid HSL)).mono ?_
            rintro e w12 ⟨rfl, hb⟩
            rw [decide_eq_true (rfl : signsP L = signsP L)]
            have HK := hid ((unhid HK).below' hb)
            have HR := hid ((unhid HR).below hb)
            have HB0 := hid ((unhid HB0).trans (hb.mono (unhid HB0).size))
            clear hb
            go_wp2_with fail
            refine (first_calls w12).mono ?_
            rintro e w13 ⟨rfl, hb⟩
            have HB := hid ((unhid HB0).trans (hb.mono (unhid HB0).size))
            clear hb
            go_wp2_with fail
            go_ret
            exact ⟨rfl, unhid HB⟩
      · have g2 : 1000000000 < sign := by omega
        clear hsg
        by_cases g3 : fld < 1
        · have HCN := hid (show (btw 1 sign 1000000000 && btw 1 fld 6) = false from by rw [unhid HBS]; rfl)
          go_wp2_with fail
          refine (pvalues_calls sign fld W (unhid HK) (unhid HAL) (by have := unhid HLE; omega)).mono ?_
          rintro e W1 ⟨v, rfl, hrow, hb⟩
          simp only [unhid HCN, if_true, Bool.false_eq_true, if_false] at hrow ⊢
          obtain ⟨Av, cv, rfl, hrd, -⟩ := own_slice hrow
          have HRV := hid hrd
          have HK := hid ((unhid HK).below' hb)
          have HR := hid ((unhid HR).below hb)
          have HB0 := hid ((unhid HB0).trans (hb.mono (unhid HB0).size))
          clear hrow hb hrd
          go_wp2_with fail
          refine (historyNo_calls sign (unhid HBS) W1 (unhid HK)).mono ?_
          rintro e W2 ⟨rfl, hb⟩
          have HRX := hid (Rd.nil W2 none : Rd W2 none (ints []))
          have HRH := hid (Rd.nil W2 none : Rd W2 none (recs []))
          have HRY := HRH
          have HVL := hid (show ([] : List Int).length ≤ 1000000 from by simp)
          have HHL := hid (show ([] : List Rc).length ≤ 1000000 from by simp)
          have HK := hid ((unhid HK).below' hb)
          have HR := hid ((unhid HR).below hb)
          have HB0 := hid ((unhid HB0).trans (hb.mono (unhid HB0).size))
          have HRV := hid ((unhid HRV).below hb)
          clear hb
          have hs1 : ¬ sign < 1 := by omega
          have hs2 : 1000000000 < sign := by omega
          have hf1 : fld < 1 := by omega
          go_wp2_with fail
          refine (sameInts_calls ([] : List Int) ([] : List Int) Av none cv 0 W2 (unhid HRV) (unhid HRX) (unhid HVL)).mono ?_
          rintro e w5 ⟨rfl, hb⟩
          rw [decide_eq_true (rfl : ([] : List Int) = ([] : List Int))]
          have HK := hid ((unhid HK).below' hb)
          have HR := hid ((unhid HR).below hb)
          have HB0 := hid ((unhid HB0).trans (hb.mono (unhid HB0).size))
          have HRH := hid ((unhid HRH).below hb)
          have HRY := hid ((unhid HRY).below hb)
          clear hb
          go_wp2_with fail
          refine (sameRecords_calls ([] : List Rc) ([] : List Rc) none none 0 0 w5 (unhid HRH) (unhid HRY) (unhid HHL)).mono ?_
          rintro e w6 ⟨rfl, hb⟩
          rw [decide_eq_true (rfl : ([] : List Rc) = ([] : List Rc))]
          have HK := hid ((unhid HK).below' hb)
          have HR := hid ((unhid HR).below hb)
          have HB0 := hid ((unhid HB0).trans (hb.mono (unhid HB0).size))
          clear hb
          go_wp2_with fail
          refine (disputes_calls w6 (unhid HK) (by have := unhid HLE; omega) (unhid HAL) (fun _ => Iff.rfl)).mono ?_
          rintro e w7 ⟨v, D1, rfl, hD1, hl1, hrow, hb⟩
          obtain ⟨Ad, cd, rfl, hrd, -⟩ := own_slice hrow
          have HRD1 := hid hrd
          have HD1 := hid hD1
          have HDL := hid (show D1.length ≤ 1000000 from by have := unhid HLE; omega)
          have HK := hid ((unhid HK).below' hb)
          have HR := hid ((unhid HR).below hb)
          have HB0 := hid ((unhid HB0).trans (hb.mono (unhid HB0).size))
          clear hrow hb hrd hD1 hl1
          go_wp2_with fail
          refine (rdisputes_calls w7 (unhid HR) (by have := unhid HLE; omega)).mono ?_
          rintro e w8 ⟨v, D2, rfl, hD2, -, hrow, hb⟩
          obtain rfl : D1 = D2 := dispIs_eq (unhid HD1) hD2
          obtain ⟨Ae, ce, rfl, hrd, -⟩ := own_slice hrow
          have HRD2 := hid hrd
          have HK := hid ((unhid HK).below' hb)
          have HR := hid ((unhid HR).below hb)
          have HB0 := hid ((unhid HB0).trans (hb.mono (unhid HB0).size))
          have HRD1 := hid ((unhid HRD1).below hb)
          clear hrow hb hrd hD2
          go_wp2_with fail
          refine (sameCases_calls D1 D1 Ad Ae cd ce w8 (unhid HRD1) (unhid HRD2) (unhid HDL)).mono ?_
          rintro e w9 ⟨rfl, hb⟩
          rw [decide_eq_true (rfl : D1 = D1)]
          have HK := hid ((unhid HK).below' hb)
          have HR := hid ((unhid HR).below hb)
          have HB0 := hid ((unhid HB0).trans (hb.mono (unhid HB0).size))
          clear hb HRD1 HRD2
          go_wp2_with fail
          refine (signs_calls w9 (unhid HK) (by have := unhid HLE; omega) (unhid HAL) (fun _ => Iff.rfl)).mono ?_
          rintro e w10 ⟨v, rfl, hl1, hrow, hb⟩
          obtain ⟨As, cs, rfl, hrd, -⟩ := own_slice hrow
          have HRS1 := hid hrd
          have HSL := hid (show (signsP L).length ≤ 1000000 from by have := unhid HLE; omega)
          have HK := hid ((unhid HK).below' hb)
          have HR := hid ((unhid HR).below hb)
          have HB0 := hid ((unhid HB0).trans (hb.mono (unhid HB0).size))
          clear hrow hb hrd hl1
          go_wp2_with fail
          refine (rsigns_calls w10 (unhid HR) (by have := unhid HLE; omega)).mono ?_
          rintro e w11 ⟨At, ct, rfl, hrd, hb⟩
          have HRS2 := hid hrd
          have HK := hid ((unhid HK).below' hb)
          have HR := hid ((unhid HR).below hb)
          have HB0 := hid ((unhid HB0).trans (hb.mono (unhid HB0).size))
          have HRS1 := hid ((unhid HRS1).below hb)
          clear hb hrd
          go_wp2_with fail
          refine (sameInts_calls (signsP L) (signsP L) As At cs ct w11 (unhid HRS1) (unhid HRS2) (unhid HSL)).mono ?_
          rintro e w12 ⟨rfl, hb⟩
          rw [decide_eq_true (rfl : signsP L = signsP L)]
          have HK := hid ((unhid HK).below' hb)
          have HR := hid ((unhid HR).below hb)
          have HB0 := hid ((unhid HB0).trans (hb.mono (unhid HB0).size))
          clear hb
          go_wp2_with fail
          refine (first_calls w12).mono ?_
          rintro e w13 ⟨rfl, hb⟩
          have HB := hid ((unhid HB0).trans (hb.mono (unhid HB0).size))
          clear hb
          go_wp2_with fail
          go_ret
          exact ⟨rfl, unhid HB⟩
        · by_cases g4 : 6 < fld
          · have HCN := hid (show (btw 1 sign 1000000000 && btw 1 fld 6) = false from by rw [unhid HBS]; rfl)
            go_wp2_with fail
            refine (pvalues_calls sign fld W (unhid HK) (unhid HAL) (by have := unhid HLE; omega)).mono ?_
            rintro e W1 ⟨v, rfl, hrow, hb⟩
            simp only [unhid HCN, if_true, Bool.false_eq_true, if_false] at hrow ⊢
            obtain ⟨Av, cv, rfl, hrd, -⟩ := own_slice hrow
            have HRV := hid hrd
            have HK := hid ((unhid HK).below' hb)
            have HR := hid ((unhid HR).below hb)
            have HB0 := hid ((unhid HB0).trans (hb.mono (unhid HB0).size))
            clear hrow hb hrd
            go_wp2_with fail
            refine (historyNo_calls sign (unhid HBS) W1 (unhid HK)).mono ?_
            rintro e W2 ⟨rfl, hb⟩
            have HRX := hid (Rd.nil W2 none : Rd W2 none (ints []))
            have HRH := hid (Rd.nil W2 none : Rd W2 none (recs []))
            have HRY := HRH
            have HVL := hid (show ([] : List Int).length ≤ 1000000 from by simp)
            have HHL := hid (show ([] : List Rc).length ≤ 1000000 from by simp)
            have HK := hid ((unhid HK).below' hb)
            have HR := hid ((unhid HR).below hb)
            have HB0 := hid ((unhid HB0).trans (hb.mono (unhid HB0).size))
            have HRV := hid ((unhid HRV).below hb)
            clear hb
            have hs1 : ¬ sign < 1 := by omega
            have hs2 : 1000000000 < sign := by omega
            have hf1 : ¬ fld < 1 := by omega
            have hf2 : 6 < fld := by omega
            go_wp2_with fail
            refine (sameInts_calls ([] : List Int) ([] : List Int) Av none cv 0 W2 (unhid HRV) (unhid HRX) (unhid HVL)).mono ?_
            rintro e w5 ⟨rfl, hb⟩
            rw [decide_eq_true (rfl : ([] : List Int) = ([] : List Int))]
            have HK := hid ((unhid HK).below' hb)
            have HR := hid ((unhid HR).below hb)
            have HB0 := hid ((unhid HB0).trans (hb.mono (unhid HB0).size))
            have HRH := hid ((unhid HRH).below hb)
            have HRY := hid ((unhid HRY).below hb)
            clear hb
            go_wp2_with fail
            refine (sameRecords_calls ([] : List Rc) ([] : List Rc) none none 0 0 w5 (unhid HRH) (unhid HRY) (unhid HHL)).mono ?_
            rintro e w6 ⟨rfl, hb⟩
            rw [decide_eq_true (rfl : ([] : List Rc) = ([] : List Rc))]
            have HK := hid ((unhid HK).below' hb)
            have HR := hid ((unhid HR).below hb)
            have HB0 := hid ((unhid HB0).trans (hb.mono (unhid HB0).size))
            clear hb
            go_wp2_with fail
            refine (disputes_calls w6 (unhid HK) (by have := unhid HLE; omega) (unhid HAL) (fun _ => Iff.rfl)).mono ?_
            rintro e w7 ⟨v, D1, rfl, hD1, hl1, hrow, hb⟩
            obtain ⟨Ad, cd, rfl, hrd, -⟩ := own_slice hrow
            have HRD1 := hid hrd
            have HD1 := hid hD1
            have HDL := hid (show D1.length ≤ 1000000 from by have := unhid HLE; omega)
            have HK := hid ((unhid HK).below' hb)
            have HR := hid ((unhid HR).below hb)
            have HB0 := hid ((unhid HB0).trans (hb.mono (unhid HB0).size))
            clear hrow hb hrd hD1 hl1
            go_wp2_with fail
            refine (rdisputes_calls w7 (unhid HR) (by have := unhid HLE; omega)).mono ?_
            rintro e w8 ⟨v, D2, rfl, hD2, -, hrow, hb⟩
            obtain rfl : D1 = D2 := dispIs_eq (unhid HD1) hD2
            obtain ⟨Ae, ce, rfl, hrd, -⟩ := own_slice hrow
            have HRD2 := hid hrd
            have HK := hid ((unhid HK).below' hb)
            have HR := hid ((unhid HR).below hb)
            have HB0 := hid ((unhid HB0).trans (hb.mono (unhid HB0).size))
            have HRD1 := hid ((unhid HRD1).below hb)
            clear hrow hb hrd hD2
            go_wp2_with fail
            refine (sameCases_calls D1 D1 Ad Ae cd ce w8 (unhid HRD1) (unhid HRD2) (unhid HDL)).mono ?_
            rintro e w9 ⟨rfl, hb⟩
            rw [decide_eq_true (rfl : D1 = D1)]
            have HK := hid ((unhid HK).below' hb)
            have HR := hid ((unhid HR).below hb)
            have HB0 := hid ((unhid HB0).trans (hb.mono (unhid HB0).size))
            clear hb HRD1 HRD2
            go_wp2_with fail
            refine (signs_calls w9 (unhid HK) (by have := unhid HLE; omega) (unhid HAL) (fun _ => Iff.rfl)).mono ?_
            rintro e w10 ⟨v, rfl, hl1, hrow, hb⟩
            obtain ⟨As, cs, rfl, hrd, -⟩ := own_slice hrow
            have HRS1 := hid hrd
            have HSL := hid (show (signsP L).length ≤ 1000000 from by have := unhid HLE; omega)
            have HK := hid ((unhid HK).below' hb)
            have HR := hid ((unhid HR).below hb)
            have HB0 := hid ((unhid HB0).trans (hb.mono (unhid HB0).size))
            clear hrow hb hrd hl1
            go_wp2_with fail
            refine (rsigns_calls w10 (unhid HR) (by have := unhid HLE; omega)).mono ?_
            rintro e w11 ⟨At, ct, rfl, hrd, hb⟩
            have HRS2 := hid hrd
            have HK := hid ((unhid HK).below' hb)
            have HR := hid ((unhid HR).below hb)
            have HB0 := hid ((unhid HB0).trans (hb.mono (unhid HB0).size))
            have HRS1 := hid ((unhid HRS1).below hb)
            clear hb hrd
            go_wp2_with fail
            refine (sameInts_calls (signsP L) (signsP L) As At cs ct w11 (unhid HRS1) (unhid HRS2) (unhid HSL)).mono ?_
            rintro e w12 ⟨rfl, hb⟩
            rw [decide_eq_true (rfl : signsP L = signsP L)]
            have HK := hid ((unhid HK).below' hb)
            have HR := hid ((unhid HR).below hb)
            have HB0 := hid ((unhid HB0).trans (hb.mono (unhid HB0).size))
            clear hb
            go_wp2_with fail
            refine (first_calls w12).mono ?_
            rintro e w13 ⟨rfl, hb⟩
            have HB := hid ((unhid HB0).trans (hb.mono (unhid HB0).size))
            clear hb
            go_wp2_with fail
            go_ret
            exact ⟨rfl, unhid HB⟩
          · have HCN := hid (show (btw 1 sign 1000000000 && btw 1 fld 6) = false from by rw [unhid HBS]; rfl)
            go_wp2_with fail
            refine (pvalues_calls sign fld W (unhid HK) (unhid HAL) (by have := unhid HLE; omega)).mono ?_
            rintro e W1 ⟨v, rfl, hrow, hb⟩
            simp only [unhid HCN, if_true, Bool.false_eq_true, if_false] at hrow ⊢
            obtain ⟨Av, cv, rfl, hrd, -⟩ := own_slice hrow
            have HRV := hid hrd
            have HK := hid ((unhid HK).below' hb)
            have HR := hid ((unhid HR).below hb)
            have HB0 := hid ((unhid HB0).trans (hb.mono (unhid HB0).size))
            clear hrow hb hrd
            go_wp2_with fail
            refine (historyNo_calls sign (unhid HBS) W1 (unhid HK)).mono ?_
            rintro e W2 ⟨rfl, hb⟩
            have HRX := hid (Rd.nil W2 none : Rd W2 none (ints []))
            have HRH := hid (Rd.nil W2 none : Rd W2 none (recs []))
            have HRY := HRH
            have HVL := hid (show ([] : List Int).length ≤ 1000000 from by simp)
            have HHL := hid (show ([] : List Rc).length ≤ 1000000 from by simp)
            have HK := hid ((unhid HK).below' hb)
            have HR := hid ((unhid HR).below hb)
            have HB0 := hid ((unhid HB0).trans (hb.mono (unhid HB0).size))
            have HRV := hid ((unhid HRV).below hb)
            clear hb
            have hs1 : ¬ sign < 1 := by omega
            have hs2 : 1000000000 < sign := by omega
            have hf1 : ¬ fld < 1 := by omega
            have hf2 : ¬ 6 < fld := by omega
            go_wp2_with fail
            refine (sameInts_calls ([] : List Int) ([] : List Int) Av none cv 0 W2 (unhid HRV) (unhid HRX) (unhid HVL)).mono ?_
            rintro e w5 ⟨rfl, hb⟩
            rw [decide_eq_true (rfl : ([] : List Int) = ([] : List Int))]
            have HK := hid ((unhid HK).below' hb)
            have HR := hid ((unhid HR).below hb)
            have HB0 := hid ((unhid HB0).trans (hb.mono (unhid HB0).size))
            have HRH := hid ((unhid HRH).below hb)
            have HRY := hid ((unhid HRY).below hb)
            clear hb
            go_wp2_with fail
            refine (sameRecords_calls ([] : List Rc) ([] : List Rc) none none 0 0 w5 (unhid HRH) (unhid HRY) (unhid HHL)).mono ?_
            rintro e w6 ⟨rfl, hb⟩
            rw [decide_eq_true (rfl : ([] : List Rc) = ([] : List Rc))]
            have HK := hid ((unhid HK).below' hb)
            have HR := hid ((unhid HR).below hb)
            have HB0 := hid ((unhid HB0).trans (hb.mono (unhid HB0).size))
            clear hb
            go_wp2_with fail
            refine (disputes_calls w6 (unhid HK) (by have := unhid HLE; omega) (unhid HAL) (fun _ => Iff.rfl)).mono ?_
            rintro e w7 ⟨v, D1, rfl, hD1, hl1, hrow, hb⟩
            obtain ⟨Ad, cd, rfl, hrd, -⟩ := own_slice hrow
            have HRD1 := hid hrd
            have HD1 := hid hD1
            have HDL := hid (show D1.length ≤ 1000000 from by have := unhid HLE; omega)
            have HK := hid ((unhid HK).below' hb)
            have HR := hid ((unhid HR).below hb)
            have HB0 := hid ((unhid HB0).trans (hb.mono (unhid HB0).size))
            clear hrow hb hrd hD1 hl1
            go_wp2_with fail
            refine (rdisputes_calls w7 (unhid HR) (by have := unhid HLE; omega)).mono ?_
            rintro e w8 ⟨v, D2, rfl, hD2, -, hrow, hb⟩
            obtain rfl : D1 = D2 := dispIs_eq (unhid HD1) hD2
            obtain ⟨Ae, ce, rfl, hrd, -⟩ := own_slice hrow
            have HRD2 := hid hrd
            have HK := hid ((unhid HK).below' hb)
            have HR := hid ((unhid HR).below hb)
            have HB0 := hid ((unhid HB0).trans (hb.mono (unhid HB0).size))
            have HRD1 := hid ((unhid HRD1).below hb)
            clear hrow hb hrd hD2
            go_wp2_with fail
            refine (sameCases_calls D1 D1 Ad Ae cd ce w8 (unhid HRD1) (unhid HRD2) (unhid HDL)).mono ?_
            rintro e w9 ⟨rfl, hb⟩
            rw [decide_eq_true (rfl : D1 = D1)]
            have HK := hid ((unhid HK).below' hb)
            have HR := hid ((unhid HR).below hb)
            have HB0 := hid ((unhid HB0).trans (hb.mono (unhid HB0).size))
            clear hb HRD1 HRD2
            go_wp2_with fail
            refine (signs_calls w9 (unhid HK) (by have := unhid HLE; omega) (unhid HAL) (fun _ => Iff.rfl)).mono ?_
            rintro e w10 ⟨v, rfl, hl1, hrow, hb⟩
            obtain ⟨As, cs, rfl, hrd, -⟩ := own_slice hrow
            have HRS1 := hid hrd
            have HSL := hid (show (signsP L).length ≤ 1000000 from by have := unhid HLE; omega)
            have HK := hid ((unhid HK).below' hb)
            have HR := hid ((unhid HR).below hb)
            have HB0 := hid ((unhid HB0).trans (hb.mono (unhid HB0).size))
            clear hrow hb hrd hl1
            go_wp2_with fail
            refine (rsigns_calls w10 (unhid HR) (by have := unhid HLE; omega)).mono ?_
            rintro e w11 ⟨At, ct, rfl, hrd, hb⟩
            have HRS2 := hid hrd
            have HK := hid ((unhid HK).below' hb)
            have HR := hid ((unhid HR).below hb)
            have HB0 := hid ((unhid HB0).trans (hb.mono (unhid HB0).size))
            have HRS1 := hid ((unhid HRS1).below hb)
            clear hb hrd
            go_wp2_with fail
            refine (sameInts_calls (signsP L) (signsP L) As At cs ct w11 (unhid HRS1) (unhid HRS2) (unhid HSL)).mono ?_
            rintro e w12 ⟨rfl, hb⟩
            rw [decide_eq_true (rfl : signsP L = signsP L)]
            have HK := hid ((unhid HK).below' hb)
            have HR := hid ((unhid HR).below hb)
            have HB0 := hid ((unhid HB0).trans (hb.mono (unhid HB0).size))
            clear hb
            go_wp2_with fail
            refine (first_calls w12).mono ?_
            rintro e w13 ⟨rfl, hb⟩
            have HB := hid ((unhid HB0).trans (hb.mono (unhid HB0).size))
            clear hb
            go_wp2_with fail
            go_ret
            exact ⟨rfl, unhid HB⟩
    | true =>
      have HBS := hid hbs
      clear hbs
      by_cases g3 : fld < 1
      · have HBF := hid (show btw 1 fld 6 = false from by simp [btw]; omega)
        have HCN := hid (show (btw 1 sign 1000000000 && btw 1 fld 6) = false from by rw [unhid HBS, unhid HBF]; rfl)
        go_wp2_with fail
        refine (pvalues_calls sign fld W (unhid HK) (unhid HAL) (by have := unhid HLE; omega)).mono ?_
        rintro e W1 ⟨v, rfl, hrow, hb⟩
        simp only [unhid HCN, if_true, Bool.false_eq_true, if_false] at hrow ⊢
        obtain ⟨Av, cv, rfl, hrd, -⟩ := own_slice hrow
        have HRV := hid hrd
        have HK := hid ((unhid HK).below' hb)
        have HR := hid ((unhid HR).below hb)
        have HB0 := hid ((unhid HB0).trans (hb.mono (unhid HB0).size))
        clear hrow hb hrd
        go_wp2_with fail
        refine (history_calls sign (unhid HBS) W1 (unhid HK) (by have := unhid HLE; omega) (unhid HAL) (fun _ => Iff.rfl)).mono ?_
        rintro e W2 ⟨v, H1, rfl, hH1, hrow, hb⟩
        obtain ⟨Ah, ch, rfl, hrd, -⟩ := own_slice hrow
        have HRH := hid hrd
        have HH1 := hid hH1
        have HK := hid ((unhid HK).below' hb)
        have HR := hid ((unhid HR).below hb)
        have HB0 := hid ((unhid HB0).trans (hb.mono (unhid HB0).size))
        have HRV := hid ((unhid HRV).below hb)
        clear hrow hb hrd hH1
        have hs1 : ¬ sign < 1 := by have := btw_iff.1 (unhid HBS); omega
        have hs2 : ¬ 1000000000 < sign := by have := btw_iff.1 (unhid HBS); omega
        go_wp2_with fail
        refine (rhistory_calls sign W2 (unhid HR) (by have := unhid HLE; omega)).mono ?_
        rintro e W3 ⟨Ay, cy, H2, rfl, hH2, hrd, hb⟩
        obtain rfl : H1 = H2 := hisIs_eq (unhid HH1) hH2
        have HRY := hid hrd
        have HHL := hid (show H1.length ≤ 1000000 from by have := (unhid HH1).len; have := unhid HLE; omega)
        have HK := hid ((unhid HK).below' hb)
        have HR := hid ((unhid HR).below hb)
        have HB0 := hid ((unhid HB0).trans (hb.mono (unhid HB0).size))
        have HRV := hid ((unhid HRV).below hb)
        have HRH := hid ((unhid HRH).below hb)
        clear hb hrd hH2 hs1 hs2
        have hf1 : fld < 1 := by omega
        have HRX := hid (Rd.nil W3 none : Rd W3 none (ints []))
        have HVL := hid (show ([] : List Int).length ≤ 1000000 from by simp)
        go_wp2_with fail
        refine (sameInts_calls ([] : List Int) ([] : List Int) Av none cv 0 W3 (unhid HRV) (unhid HRX) (unhid HVL)).mono ?_
        rintro e w5 ⟨rfl, hb⟩
        rw [decide_eq_true (rfl : ([] : List Int) = ([] : List Int))]
        have HK := hid ((unhid HK).below' hb)
        have HR := hid ((unhid HR).below hb)
        have HB0 := hid ((unhid HB0).trans (hb.mono (unhid HB0).size))
        have HRH := hid ((unhid HRH).below hb)
        have HRY := hid ((unhid HRY).below hb)
        clear hb
        go_wp2_with fail
        refine (sameRecords_calls H1 H1 Ah Ay ch cy w5 (unhid HRH) (unhid HRY) (unhid HHL)).mono ?_
        rintro e w6 ⟨rfl, hb⟩
        rw [decide_eq_true (rfl : H1 = H1)]
        have HK := hid ((unhid HK).below' hb)
        have HR := hid ((unhid HR).below hb)
        have HB0 := hid ((unhid HB0).trans (hb.mono (unhid HB0).size))
        clear hb
        go_wp2_with fail
        refine (disputes_calls w6 (unhid HK) (by have := unhid HLE; omega) (unhid HAL) (fun _ => Iff.rfl)).mono ?_
        rintro e w7 ⟨v, D1, rfl, hD1, hl1, hrow, hb⟩
        obtain ⟨Ad, cd, rfl, hrd, -⟩ := own_slice hrow
        have HRD1 := hid hrd
        have HD1 := hid hD1
        have HDL := hid (show D1.length ≤ 1000000 from by have := unhid HLE; omega)
        have HK := hid ((unhid HK).below' hb)
        have HR := hid ((unhid HR).below hb)
        have HB0 := hid ((unhid HB0).trans (hb.mono (unhid HB0).size))
        clear hrow hb hrd hD1 hl1
        go_wp2_with fail
        refine (rdisputes_calls w7 (unhid HR) (by have := unhid HLE; omega)).mono ?_
        rintro e w8 ⟨v, D2, rfl, hD2, -, hrow, hb⟩
        obtain rfl : D1 = D2 := dispIs_eq (unhid HD1) hD2
        obtain ⟨Ae, ce, rfl, hrd, -⟩ := own_slice hrow
        have HRD2 := hid hrd
        have HK := hid ((unhid HK).below' hb)
        have HR := hid ((unhid HR).below hb)
        have HB0 := hid ((unhid HB0).trans (hb.mono (unhid HB0).size))
        have HRD1 := hid ((unhid HRD1).below hb)
        clear hrow hb hrd hD2
        go_wp2_with fail
        refine (sameCases_calls D1 D1 Ad Ae cd ce w8 (unhid HRD1) (unhid HRD2) (unhid HDL)).mono ?_
        rintro e w9 ⟨rfl, hb⟩
        rw [decide_eq_true (rfl : D1 = D1)]
        have HK := hid ((unhid HK).below' hb)
        have HR := hid ((unhid HR).below hb)
        have HB0 := hid ((unhid HB0).trans (hb.mono (unhid HB0).size))
        clear hb HRD1 HRD2
        go_wp2_with fail
        refine (signs_calls w9 (unhid HK) (by have := unhid HLE; omega) (unhid HAL) (fun _ => Iff.rfl)).mono ?_
        rintro e w10 ⟨v, rfl, hl1, hrow, hb⟩
        obtain ⟨As, cs, rfl, hrd, -⟩ := own_slice hrow
        have HRS1 := hid hrd
        have HSL := hid (show (signsP L).length ≤ 1000000 from by have := unhid HLE; omega)
        have HK := hid ((unhid HK).below' hb)
        have HR := hid ((unhid HR).below hb)
        have HB0 := hid ((unhid HB0).trans (hb.mono (unhid HB0).size))
        clear hrow hb hrd hl1
        go_wp2_with fail
        refine (rsigns_calls w10 (unhid HR) (by have := unhid HLE; omega)).mono ?_
        rintro e w11 ⟨At, ct, rfl, hrd, hb⟩
        have HRS2 := hid hrd
        have HK := hid ((unhid HK).below' hb)
        have HR := hid ((unhid HR).below hb)
        have HB0 := hid ((unhid HB0).trans (hb.mono (unhid HB0).size))
        have HRS1 := hid ((unhid HRS1).below hb)
        clear hb hrd
        go_wp2_with fail
        refine (sameInts_calls (signsP L) (signsP L) As At cs ct w11 (unhid HRS1) (unhid HRS2) (unhid HSL)).mono ?_
        rintro e w12 ⟨rfl, hb⟩
        rw [decide_eq_true (rfl : signsP L = signsP L)]
        have HK := hid ((unhid HK).below' hb)
        have HR := hid ((unhid HR).below hb)
        have HB0 := hid ((unhid HB0).trans (hb.mono (unhid HB0).size))
        clear hb
        go_wp2_with fail
        refine (first_calls w12).mono ?_
        rintro e w13 ⟨rfl, hb⟩
        have HB := hid ((unhid HB0).trans (hb.mono (unhid HB0).size))
        clear hb
        go_wp2_with fail
        go_ret
        exact ⟨rfl, unhid HB⟩
      · by_cases g4 : 6 < fld
        · have HBF := hid (show btw 1 fld 6 = false from by simp [btw]; omega)
          have HCN := hid (show (btw 1 sign 1000000000 && btw 1 fld 6) = false from by rw [unhid HBS, unhid HBF]; rfl)
          go_wp2_with fail
          refine (pvalues_calls sign fld W (unhid HK) (unhid HAL) (by have := unhid HLE; omega)).mono ?_
          rintro e W1 ⟨v, rfl, hrow, hb⟩
          simp only [unhid HCN, if_true, Bool.false_eq_true, if_false] at hrow ⊢
          obtain ⟨Av, cv, rfl, hrd, -⟩ := own_slice hrow
          have HRV := hid hrd
          have HK := hid ((unhid HK).below' hb)
          have HR := hid ((unhid HR).below hb)
          have HB0 := hid ((unhid HB0).trans (hb.mono (unhid HB0).size))
          clear hrow hb hrd
          go_wp2_with fail
          refine (history_calls sign (unhid HBS) W1 (unhid HK) (by have := unhid HLE; omega) (unhid HAL) (fun _ => Iff.rfl)).mono ?_
          rintro e W2 ⟨v, H1, rfl, hH1, hrow, hb⟩
          obtain ⟨Ah, ch, rfl, hrd, -⟩ := own_slice hrow
          have HRH := hid hrd
          have HH1 := hid hH1
          have HK := hid ((unhid HK).below' hb)
          have HR := hid ((unhid HR).below hb)
          have HB0 := hid ((unhid HB0).trans (hb.mono (unhid HB0).size))
          have HRV := hid ((unhid HRV).below hb)
          clear hrow hb hrd hH1
          have hs1 : ¬ sign < 1 := by have := btw_iff.1 (unhid HBS); omega
          have hs2 : ¬ 1000000000 < sign := by have := btw_iff.1 (unhid HBS); omega
          go_wp2_with fail
          refine (rhistory_calls sign W2 (unhid HR) (by have := unhid HLE; omega)).mono ?_
          rintro e W3 ⟨Ay, cy, H2, rfl, hH2, hrd, hb⟩
          obtain rfl : H1 = H2 := hisIs_eq (unhid HH1) hH2
          have HRY := hid hrd
          have HHL := hid (show H1.length ≤ 1000000 from by have := (unhid HH1).len; have := unhid HLE; omega)
          have HK := hid ((unhid HK).below' hb)
          have HR := hid ((unhid HR).below hb)
          have HB0 := hid ((unhid HB0).trans (hb.mono (unhid HB0).size))
          have HRV := hid ((unhid HRV).below hb)
          have HRH := hid ((unhid HRH).below hb)
          clear hb hrd hH2 hs1 hs2
          have hf1 : ¬ fld < 1 := by omega
          have hf2 : 6 < fld := by omega
          have HRX := hid (Rd.nil W3 none : Rd W3 none (ints []))
          have HVL := hid (show ([] : List Int).length ≤ 1000000 from by simp)
          go_wp2_with fail
          refine (sameInts_calls ([] : List Int) ([] : List Int) Av none cv 0 W3 (unhid HRV) (unhid HRX) (unhid HVL)).mono ?_
          rintro e w5 ⟨rfl, hb⟩
          rw [decide_eq_true (rfl : ([] : List Int) = ([] : List Int))]
          have HK := hid ((unhid HK).below' hb)
          have HR := hid ((unhid HR).below hb)
          have HB0 := hid ((unhid HB0).trans (hb.mono (unhid HB0).size))
          have HRH := hid ((unhid HRH).below hb)
          have HRY := hid ((unhid HRY).below hb)
          clear hb
          go_wp2_with fail
          refine (sameRecords_calls H1 H1 Ah Ay ch cy w5 (unhid HRH) (unhid HRY) (unhid HHL)).mono ?_
          rintro e w6 ⟨rfl, hb⟩
          rw [decide_eq_true (rfl : H1 = H1)]
          have HK := hid ((unhid HK).below' hb)
          have HR := hid ((unhid HR).below hb)
          have HB0 := hid ((unhid HB0).trans (hb.mono (unhid HB0).size))
          clear hb
          go_wp2_with fail
          refine (disputes_calls w6 (unhid HK) (by have := unhid HLE; omega) (unhid HAL) (fun _ => Iff.rfl)).mono ?_
          rintro e w7 ⟨v, D1, rfl, hD1, hl1, hrow, hb⟩
          obtain ⟨Ad, cd, rfl, hrd, -⟩ := own_slice hrow
          have HRD1 := hid hrd
          have HD1 := hid hD1
          have HDL := hid (show D1.length ≤ 1000000 from by have := unhid HLE; omega)
          have HK := hid ((unhid HK).below' hb)
          have HR := hid ((unhid HR).below hb)
          have HB0 := hid ((unhid HB0).trans (hb.mono (unhid HB0).size))
          clear hrow hb hrd hD1 hl1
          go_wp2_with fail
          refine (rdisputes_calls w7 (unhid HR) (by have := unhid HLE; omega)).mono ?_
          rintro e w8 ⟨v, D2, rfl, hD2, -, hrow, hb⟩
          obtain rfl : D1 = D2 := dispIs_eq (unhid HD1) hD2
          obtain ⟨Ae, ce, rfl, hrd, -⟩ := own_slice hrow
          have HRD2 := hid hrd
          have HK := hid ((unhid HK).below' hb)
          have HR := hid ((unhid HR).below hb)
          have HB0 := hid ((unhid HB0).trans (hb.mono (unhid HB0).size))
          have HRD1 := hid ((unhid HRD1).below hb)
          clear hrow hb hrd hD2
          go_wp2_with fail
          refine (sameCases_calls D1 D1 Ad Ae cd ce w8 (unhid HRD1) (unhid HRD2) (unhid HDL)).mono ?_
          rintro e w9 ⟨rfl, hb⟩
          rw [decide_eq_true (rfl : D1 = D1)]
          have HK := hid ((unhid HK).below' hb)
          have HR := hid ((unhid HR).below hb)
          have HB0 := hid ((unhid HB0).trans (hb.mono (unhid HB0).size))
          clear hb HRD1 HRD2
          go_wp2_with fail
          refine (signs_calls w9 (unhid HK) (by have := unhid HLE; omega) (unhid HAL) (fun _ => Iff.rfl)).mono ?_
          rintro e w10 ⟨v, rfl, hl1, hrow, hb⟩
          obtain ⟨As, cs, rfl, hrd, -⟩ := own_slice hrow
          have HRS1 := hid hrd
          have HSL := hid (show (signsP L).length ≤ 1000000 from by have := unhid HLE; omega)
          have HK := hid ((unhid HK).below' hb)
          have HR := hid ((unhid HR).below hb)
          have HB0 := hid ((unhid HB0).trans (hb.mono (unhid HB0).size))
          clear hrow hb hrd hl1
          go_wp2_with fail
          refine (rsigns_calls w10 (unhid HR) (by have := unhid HLE; omega)).mono ?_
          rintro e w11 ⟨At, ct, rfl, hrd, hb⟩
          have HRS2 := hid hrd
          have HK := hid ((unhid HK).below' hb)
          have HR := hid ((unhid HR).below hb)
          have HB0 := hid ((unhid HB0).trans (hb.mono (unhid HB0).size))
          have HRS1 := hid ((unhid HRS1).below hb)
          clear hb hrd
          go_wp2_with fail
          refine (sameInts_calls (signsP L) (signsP L) As At cs ct w11 (unhid HRS1) (unhid HRS2) (unhid HSL)).mono ?_
          rintro e w12 ⟨rfl, hb⟩
          rw [decide_eq_true (rfl : signsP L = signsP L)]
          have HK := hid ((unhid HK).below' hb)
          have HR := hid ((unhid HR).below hb)
          have HB0 := hid ((unhid HB0).trans (hb.mono (unhid HB0).size))
          clear hb
          go_wp2_with fail
          refine (first_calls w12).mono ?_
          rintro e w13 ⟨rfl, hb⟩
          have HB := hid ((unhid HB0).trans (hb.mono (unhid HB0).size))
          clear hb
          go_wp2_with fail
          go_ret
          exact ⟨rfl, unhid HB⟩
        · have HBF := hid (show btw 1 fld 6 = true from btw_iff.2 (by omega))
          have HCN := hid (show (btw 1 sign 1000000000 && btw 1 fld 6) = true from by rw [unhid HBS, unhid HBF]; rfl)
          go_wp2_with fail
          refine (pvalues_calls sign fld W (unhid HK) (unhid HAL) (by have := unhid HLE; omega)).mono ?_
          rintro e W1 ⟨v, rfl, hrow, hb⟩
          simp only [unhid HCN, if_true, Bool.false_eq_true, if_false] at hrow ⊢
          obtain ⟨Av, cv, rfl, hrd, -⟩ := own_slice hrow
          have HRV := hid hrd
          have HK := hid ((unhid HK).below' hb)
          have HR := hid ((unhid HR).below hb)
          have HB0 := hid ((unhid HB0).trans (hb.mono (unhid HB0).size))
          clear hrow hb hrd
          go_wp2_with fail
          refine (history_calls sign (unhid HBS) W1 (unhid HK) (by have := unhid HLE; omega) (unhid HAL) (fun _ => Iff.rfl)).mono ?_
          rintro e W2 ⟨v, H1, rfl, hH1, hrow, hb⟩
          obtain ⟨Ah, ch, rfl, hrd, -⟩ := own_slice hrow
          have HRH := hid hrd
          have HH1 := hid hH1
          have HK := hid ((unhid HK).below' hb)
          have HR := hid ((unhid HR).below hb)
          have HB0 := hid ((unhid HB0).trans (hb.mono (unhid HB0).size))
          have HRV := hid ((unhid HRV).below hb)
          clear hrow hb hrd hH1
          have hs1 : ¬ sign < 1 := by have := btw_iff.1 (unhid HBS); omega
          have hs2 : ¬ 1000000000 < sign := by have := btw_iff.1 (unhid HBS); omega
          go_wp2_with fail
          refine (rhistory_calls sign W2 (unhid HR) (by have := unhid HLE; omega)).mono ?_
          rintro e W3 ⟨Ay, cy, H2, rfl, hH2, hrd, hb⟩
          obtain rfl : H1 = H2 := hisIs_eq (unhid HH1) hH2
          have HRY := hid hrd
          have HHL := hid (show H1.length ≤ 1000000 from by have := (unhid HH1).len; have := unhid HLE; omega)
          have HK := hid ((unhid HK).below' hb)
          have HR := hid ((unhid HR).below hb)
          have HB0 := hid ((unhid HB0).trans (hb.mono (unhid HB0).size))
          have HRV := hid ((unhid HRV).below hb)
          have HRH := hid ((unhid HRH).below hb)
          clear hb hrd hH2 hs1 hs2
          have hf1 : ¬ fld < 1 := by omega
          have hf2 : ¬ 6 < fld := by omega
          go_wp2_with fail
          refine (rvalues_calls sign fld W3 (unhid HR) (by have := unhid HLE; omega)).mono ?_
          rintro e W4 ⟨Ax, cx, rfl, hrd, hb⟩
          have HRX := hid hrd
          have HVL := hid (show (valuesP L sign fld).length ≤ 1000000 from by
            unfold valuesP valsP
            refine Nat.le_trans (setI_len _) ?_
            rw [List.length_map]
            refine Nat.le_trans (List.length_filter_le _ _) (Nat.le_trans (List.length_filter_le _ _) (Nat.le_trans (List.length_filter_le _ _) ?_))
            have := unhid HLE
            omega)
          have HK := hid ((unhid HK).below' hb)
          have HR := hid ((unhid HR).below hb)
          have HB0 := hid ((unhid HB0).trans (hb.mono (unhid HB0).size))
          have HRV := hid ((unhid HRV).below hb)
          have HRH := hid ((unhid HRH).below hb)
          have HRY := hid ((unhid HRY).below hb)
          clear hb hrd
          generalize valuesP L sign fld = vs at *
          go_wp2_with fail
          refine (sameInts_calls vs vs Av Ax cv cx W4 (unhid HRV) (unhid HRX) (unhid HVL)).mono ?_
          rintro e w5 ⟨rfl, hb⟩
          rw [decide_eq_true (rfl : vs = vs)]
          have HK := hid ((unhid HK).below' hb)
          have HR := hid ((unhid HR).below hb)
          have HB0 := hid ((unhid HB0).trans (hb.mono (unhid HB0).size))
          have HRH := hid ((unhid HRH).below hb)
          have HRY := hid ((unhid HRY).below hb)
          clear hb
          go_wp2_with fail
          refine (sameRecords_calls H1 H1 Ah Ay ch cy w5 (unhid HRH) (unhid HRY) (unhid HHL)).mono ?_
          rintro e w6 ⟨rfl, hb⟩
          rw [decide_eq_true (rfl : H1 = H1)]
          have HK := hid ((unhid HK).below' hb)
          have HR := hid ((unhid HR).below hb)
          have HB0 := hid ((unhid HB0).trans (hb.mono (unhid HB0).size))
          clear hb
          go_wp2_with fail
          refine (disputes_calls w6 (unhid HK) (by have := unhid HLE; omega) (unhid HAL) (fun _ => Iff.rfl)).mono ?_
          rintro e w7 ⟨v, D1, rfl, hD1, hl1, hrow, hb⟩
          obtain ⟨Ad, cd, rfl, hrd, -⟩ := own_slice hrow
          have HRD1 := hid hrd
          have HD1 := hid hD1
          have HDL := hid (show D1.length ≤ 1000000 from by have := unhid HLE; omega)
          have HK := hid ((unhid HK).below' hb)
          have HR := hid ((unhid HR).below hb)
          have HB0 := hid ((unhid HB0).trans (hb.mono (unhid HB0).size))
          clear hrow hb hrd hD1 hl1
          go_wp2_with fail
          refine (rdisputes_calls w7 (unhid HR) (by have := unhid HLE; omega)).mono ?_
          rintro e w8 ⟨v, D2, rfl, hD2, -, hrow, hb⟩
          obtain rfl : D1 = D2 := dispIs_eq (unhid HD1) hD2
          obtain ⟨Ae, ce, rfl, hrd, -⟩ := own_slice hrow
          have HRD2 := hid hrd
          have HK := hid ((unhid HK).below' hb)
          have HR := hid ((unhid HR).below hb)
          have HB0 := hid ((unhid HB0).trans (hb.mono (unhid HB0).size))
          have HRD1 := hid ((unhid HRD1).below hb)
          clear hrow hb hrd hD2
          go_wp2_with fail
          refine (sameCases_calls D1 D1 Ad Ae cd ce w8 (unhid HRD1) (unhid HRD2) (unhid HDL)).mono ?_
          rintro e w9 ⟨rfl, hb⟩
          rw [decide_eq_true (rfl : D1 = D1)]
          have HK := hid ((unhid HK).below' hb)
          have HR := hid ((unhid HR).below hb)
          have HB0 := hid ((unhid HB0).trans (hb.mono (unhid HB0).size))
          clear hb HRD1 HRD2
          go_wp2_with fail
          refine (signs_calls w9 (unhid HK) (by have := unhid HLE; omega) (unhid HAL) (fun _ => Iff.rfl)).mono ?_
          rintro e w10 ⟨v, rfl, hl1, hrow, hb⟩
          obtain ⟨As, cs, rfl, hrd, -⟩ := own_slice hrow
          have HRS1 := hid hrd
          have HSL := hid (show (signsP L).length ≤ 1000000 from by have := unhid HLE; omega)
          have HK := hid ((unhid HK).below' hb)
          have HR := hid ((unhid HR).below hb)
          have HB0 := hid ((unhid HB0).trans (hb.mono (unhid HB0).size))
          clear hrow hb hrd hl1
          go_wp2_with fail
          refine (rsigns_calls w10 (unhid HR) (by have := unhid HLE; omega)).mono ?_
          rintro e w11 ⟨At, ct, rfl, hrd, hb⟩
          have HRS2 := hid hrd
          have HK := hid ((unhid HK).below' hb)
          have HR := hid ((unhid HR).below hb)
          have HB0 := hid ((unhid HB0).trans (hb.mono (unhid HB0).size))
          have HRS1 := hid ((unhid HRS1).below hb)
          clear hb hrd
          go_wp2_with fail
          refine (sameInts_calls (signsP L) (signsP L) As At cs ct w11 (unhid HRS1) (unhid HRS2) (unhid HSL)).mono ?_
          rintro e w12 ⟨rfl, hb⟩
          rw [decide_eq_true (rfl : signsP L = signsP L)]
          have HK := hid ((unhid HK).below' hb)
          have HR := hid ((unhid HR).below hb)
          have HB0 := hid ((unhid HB0).trans (hb.mono (unhid HB0).size))
          clear hb
          go_wp2_with fail
          refine (first_calls w12).mono ?_
          rintro e w13 ⟨rfl, hb⟩
          have HB := hid ((unhid HB0).trans (hb.mono (unhid HB0).size))
          clear hb
          go_wp2_with fail
          go_ret
          exact ⟨rfl, unhid HB⟩
end

end Go.Proofs.YtegghimjmbgghaaGreat
