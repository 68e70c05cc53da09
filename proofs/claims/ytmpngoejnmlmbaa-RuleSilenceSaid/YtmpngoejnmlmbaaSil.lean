/-
  The law RuleSilence.
-/
import Derived.Test.YtmpngoejnmlmbaaSilK
import Derived.Test.YtmpngoejnmlmbaaRight
import Derived.Test.YtmpngoejnmlmbaaHolds
import Derived.Deep.AppendLies
import Derived.Deep.DeepCutAuto
set_option linter.unusedSimpArgs false
set_option linter.unusedVariables false
namespace Go.Proofs.Ytmpngoejnmlmbaa
open Go.RowKit

theorem wrap_mod (metre : Int) (n : Nat) (h1 : 1 ≤ n) (h2 : n ≤ 200) : ∃ m : Nat, m < n ∧ wrap64 ((IntKind.u64.wrap metre).tmod n) = m := by
  have h0 : 0 ≤ IntKind.u64.wrap metre := by
    simp [IntKind.wrap, IntKind.signed, IntKind.bits]
    exact Int.emod_nonneg _ (by omega)
  have h3 : (IntKind.u64.wrap metre).tmod n = IntKind.u64.wrap metre % n := Int.tmod_eq_emod_of_nonneg h0
  have h4 := Int.emod_nonneg (IntKind.u64.wrap metre) (show (n : Int) ≠ 0 by omega)
  have h5 := Int.emod_lt_of_pos (IntKind.u64.wrap metre) (show (0 : Int) < n by omega)
  refine ⟨(IntKind.u64.wrap metre % n).toNat, by omega, ?_⟩
  rw [h3, IntWalk.wrap64_in _ ⟨by omega, by omega⟩]
  omega

set_option maxHeartbeats 4000000 in
set_option maxRecDepth 100000 in
theorem silence_calls (len : Int) (A : Option Addr) (js : List Int) (c : Nat) (A2 : Option Addr) (l : List Sg) (c2 : Nat) (A3 : Option Addr) (ed : List Ed) (c3 : Nat) (hour dir topic metre : Int) (which : Int) (w : World) (hl : LnOk w A js) (hs : SgsOk w A2 l) (he : EdsOk w A3 ed) (il : I64 len) (_ : I64 hour) (_ : I64 dir) (_ : I64 topic) (im : I64 metre) (iw : (Lit.int .u8 which).wf = true) :
    Calls Try.prog 5 #[.agg #[.int .i64 len, .slice A js.length c, .slice A2 l.length c2, .slice A3 ed.length c3, .int .i64 hour, .int .i64 dir, .int .i64 topic, .int .i64 metre], .int .u8 which] w fun e w' => e = .returned (.bool true) ∧ Below w.heap.size w w' := by
  have hwh : 0 ≤ which ∧ which ≤ 255 := by
    simp [Lit.wf, IntKind.min, IntKind.max, IntKind.signed, IntKind.bits] at iw
    exact iw
  clear iw
  have HL := hid hl
  have HS := hid hs
  have HE := hid he
  have hsn := hs.n
  clear hl hs he
  go_enter Try.func5, Try.ntmps5
  go_wp2_with fail
  refine (right_calls len A js c A2 l c2 A3 ed c3 hour dir topic metre _ ((unhid HL).below (below_alloc _ _)) ((unhid HS).below (below_alloc _ _)) ((unhid HE).below (below_alloc _ _))).mono ?_
  rintro e W ⟨rfl, hb1⟩
  have HA := (Ask8.new w (.int .i64 len) (.slice A js.length c) (.slice A2 l.length c2) (.slice A3 ed.length c3) (.int .i64 hour) (.int .i64 dir) (.int .i64 topic) (.int .i64 metre) 28).below hb1
  have hbw1 : Below w.heap.size w W := (below_alloc w _).trans (hb1.mono (by simp))
  have HL := hid ((unhid HL).below hbw1)
  have HS := hid ((unhid HS).below hbw1)
  have HE := hid ((unhid HE).below hbw1)
  clear hb1
  have HBW := hid hbw1
  clear hbw1
  generalize hBB : w.heap.size = B at *
  obtain ⟨e0, e1, e2, e3, e4, e5, e6, e7⟩ := HA.cells
  by_cases hrt : rightA len js l ed hour dir topic = true
  · have HOK := rightA_ok hrt
    rw [hrt]
    clear hrt
    by_cases hl0 : l.length = 0
    · have hl1 : ((l.length : Int) == 0) = true := by simpa using hl0
      have HL0 := hid hl0
      clear hl0
      go_wp2_with fail
      refine (first_calls _).mono ?_
      rintro e w2 ⟨rfl, hb2⟩
      go_wp2_with fail
      go_ret
      exact ⟨rfl, by rw [hBB]; exact (unhid HBW).trans (hb2.mono (by have := (unhid HBW).size; have := HA.lt; omega))⟩
    · have hl1 : ((l.length : Int) == 0) = false := by simpa using hl0
      have hlpos : 0 < l.length := by omega
      clear hl0
      have hlen1 := (lineB_len HOK.line).1
      have hlen2 := HOK.small
      have hl100 := sgsB_len HOK.signs
      obtain ⟨n, rfl⟩ := Int.eq_ofNat_of_zero_le (show 0 ≤ len by omega)
      obtain ⟨wh, rfl⟩ := Int.eq_ofNat_of_zero_le hwh.1
      have hwh2 := hwh.2
      clear hwh
      have hmd := wrap_mod metre n (by omega) (by omega)
      obtain ⟨mm, hmm, hme⟩ := hmd
      have hke : ∃ kk : Nat, kk < l.length ∧ (wh : Int) % (l.length : Int) = kk := ⟨wh % l.length, Nat.mod_lt _ hlpos, by simp⟩
      obtain ⟨kk, hkk, hke⟩ := hke
      have HME := hid hme
      have HKE := hid hke
      clear hme hke
      obtain ⟨sK, hsK⟩ : ∃ s, l[kk]? = some s := ⟨_, List.getElem?_eq_getElem hkk⟩
      have HSK := hid hsK
      clear hsK
      obtain ⟨i0, hi, hz0, hz1, hz2⟩ := info_parts info_sign
      have HOK := hid HOK
      clear e0 e1 e2 e3 e4 e5 e6 e7
      have HSI := hid (SilI.start W)
      obtain ⟨e0, e1, e2, e3, e4, e5, e6, e7⟩ := HA.cells
      go_wp2_with fail
      rw [unhid HME, unhid HKE]
      clear e0 e1 e2 e3 e4 e5 e6 e7
      go_loopw [7, 8, 9, 10] (fun a b v i wr => ∃ (q : Nat) (cA : Option Addr) (cc : Nat), q ≤ l.length ∧ i = .int .i64 q ∧ SilI wr W a b v (spoken hour l q) ((l.take q).eraseIdx kk) ((l.take q).set kk (covS sK cA cc)) cA (if kk < q then spans [(sK.up, sK.down)] else [])) (fun _ _ _ i _ => l.length - (intOf i).toNat)
      case atStart => exact ⟨0, none, 0, Nat.zero_le _, rfl, unhid HSI⟩
      case round =>
        obtain ⟨q, cA, cc, hq, rfl, hI⟩ := hrel
        have hbel := hI.below
        have HI := hid hI
        clear hI
        have HAr := HA.below hbel
        obtain ⟨e0, e1, e2, e3, e4, e5, e6, e7⟩ := HAr.cells
        by_cases hlt : q < l.length
        · obtain ⟨b, off, rfl, hb, hc⟩ := ((unhid HS).below hbel).rd (signs_ne hlt)
          obtain ⟨m0, m1, m2, m3, m4, m5, m6, m7, m8⟩ := signs_cells hc hlt
          clear hc
          have hsok := hid (((unhid HS).below hbel).all _ (List.getElem_mem hlt))
          have H1 := hid (spoken_succ (hour := hour) hlt)
          have H2 := hid (erase_succ (k := kk) hlt)
          have H3 := hid (set_succ (k := kk) (s' := covS sK cA cc) hlt)
          have H4 := hid (show q = kk → ∀ s', (l.take (q + 1)).set kk s' = (l.take q).set kk (covS sK cA cc) ++ [s'] from fun e s' => by
            rw [set_succ hlt, if_pos e, List.set_eq_of_length_le (by simp; omega), List.set_eq_of_length_le (by simp; omega)])
          have HQK := hid (show q = kk → sK = l[q] from fun e => by subst e; have := unhid HSK; rw [List.getElem?_eq_getElem hlt] at this; injection this with this; exact this.symm)
          have hll : (spoken hour l q).length ≤ 100 ∧ ((l.take q).eraseIdx kk).length ≤ 100 ∧ ∀ s', ((l.take q).set kk s').length ≤ 100 :=
            ⟨Nat.le_trans (List.length_filter_le _ _) (by simp; omega), Nat.le_trans (List.length_eraseIdx_le _ _) (by simp; omega), fun s' => by simp; omega⟩
          have hl1' := hll.1
          have hl2' := hll.2.1
          have hl3' := hll.2.2 (covS sK cA cc)
          clear hll
          generalize hx : l[q] = x at *
          clear hx
          generalize hlA : spoken hour l q = LA at *
          generalize hlB : (l.take q).eraseIdx kk = LB at *
          generalize hlC : (l.take q).set kk (covS sK cA cc) = LC at *
          clear hlA hlB hlC
          have hBr := HAr.lt
          have hWr := hbel.size
          go_wp2_with fail
          have hEs : (wr.alloc (.cells #[.int .i64 x.num, .int .i64 x.kind, .int .i64 x.val, .int .i64 x.chain, .int .i64 x.dir, .int .i64 x.rank, .int .i64 x.up, .int .i64 x.down, .slice x.cA x.cov.length x.cc] 34)).heap[wr.heap.size]? = some (.cells #[.int .i64 x.num, .int .i64 x.kind, .int .i64 x.val, .int .i64 x.chain, .int .i64 x.dir, .int .i64 x.rank, .int .i64 x.up, .int .i64 x.down, .slice x.cA x.cov.length x.cc] 34 (0, 0)) := heap_alloc_new _ _
          refine (rspeaks_calls x hour _ ((unhid hsok).below (below_alloc _ _))).mono ?_
          rintro e w2 ⟨rfl, hb2⟩
          have hE2 := (hb2.block _ (by simp)).trans hEs
          have hbx : Below wr.heap.size wr w2 := (below_alloc _ _).trans (hb2.mono (by simp))
          have HI2 := hid ((unhid HI).kept hbx)
          have hsz2 : wr.heap.size < w2.heap.size := Nat.lt_of_lt_of_le (by simp) hb2.size
          have na : u7.ownBlock ≠ some wr.heap.size := fun e => by have := (own_lt (unhid HI).owna e).2; omega
          have nb : u8.ownBlock ≠ some wr.heap.size := fun e => by have := (own_lt (unhid HI).ownb e).2; omega
          have nc : u9.ownBlock ≠ some wr.heap.size := fun e => by have := (own_lt (unhid HI).ownc e).2; omega
          have nA : ∀ x, cA = some x → x.block ≠ wr.heap.size := fun x e => by have := (unhid HI).flt x e; omega
          clear hEs hb2 hbx e0 e1 e2 e3 e4 e5 e6 e7 m0 m1 m2 m3 m4 m5 m6 m7 m8
          generalize hEb : wr.heap.size = E at *
          have HEB := hid hEb
          clear hEb
          have HBL := hid hbel
          clear hbel
          generalize hsp : spkB x hour = sp at *
          clear hsp
          have HB1 := hid (HA.below (unhid HI2).below)
          rcases (show sp = true ∨ sp = false by cases sp <;> simp) with rfl | rfl
          · by_cases hqk : q = kk
            · have hb1 : ((q : Int) == (kk : Int)) = true := by simp; omega
              have HEQ := hid hqk
              clear hqk
              have HE2 := hid hE2
              clear hE2
              have hf8 : w2.frozen? ⟨E, 8, none⟩ = false := by simp [World.frozen?, unhid HE2]
              have d0 := cell_of_row _ E 0 _ _ _ (unhid HE2)
              have d1 := cell_of_row _ E 1 _ _ _ (unhid HE2)
              have d2 := cell_of_row _ E 2 _ _ _ (unhid HE2)
              have d3 := cell_of_row _ E 3 _ _ _ (unhid HE2)
              have d4 := cell_of_row _ E 4 _ _ _ (unhid HE2)
              have d5 := cell_of_row _ E 5 _ _ _ (unhid HE2)
              have d6 := cell_of_row _ E 6 _ _ _ (unhid HE2)
              have d7 := cell_of_row _ E 7 _ _ _ (unhid HE2)
              have d8 := cell_of_row _ E 8 _ _ _ (unhid HE2)
              simp at d0 d1 d2 d3 d4 d5 d6 d7 d8
              go_wp2_with (at_builtin; refine wpList_append_lies _ rfl _ _ 25 rfl W.heap.size 34 i0 _ 9 88 Try.underlying25 hi hz0 hz1 hz2 rfl (by decide) u7 LA.length (signs LA) rfl ?a1 ⟨w2.heap.size, 0, none⟩ 1 1 [.int .i64 x.num, .int .i64 x.kind, .int .i64 x.val, .int .i64 x.chain, .int .i64 x.dir, .int .i64 x.rank, .int .i64 x.up, .int .i64 x.down, .slice x.cA x.cov.length x.cc] rfl rfl ?a2 ?a3 (by omega) ?a4 ?a5 ?a6 (w2.heap.size + 1) ?a7 ?_)
              case a1 => exact ((unhid HI2).kept (below_alloc _ _)).owna
              case a2 => exact World.news_of_block (cs := #[.int .i64 x.num, .int .i64 x.kind, .int .i64 x.val, .int .i64 x.chain, .int .i64 x.dir, .int .i64 x.rank, .int .i64 x.up, .int .i64 x.down, .slice x.cA x.cov.length x.cc]) (t := 34) (fr := (0, 0)) (by simpa using heap_alloc_new w2 (.cells #[.int .i64 x.num, .int .i64 x.kind, .int .i64 x.val, .int .i64 x.chain, .int .i64 x.dir, .int .i64 x.rank, .int .i64 x.up, .int .i64 x.down, .slice x.cA x.cov.length x.cc] 34))
              case a3 => simp [Value.oneCell']
              case a4 => unfold maxLen; omega
              case a5 => omega
              case a6 => have := (unhid HI2).below.size; simp; omega
              case a7 => simp
              intro g3 cap3 w3 hown hg hat hlt3
              have HI3 := hid ((((unhid HI2).kept (below_alloc _ _)).push (la' := LA ++ [x]) (by rw [List.length_append, show signs (LA ++ [x]) = signs LA ++ [.int .i64 x.num, .int .i64 x.kind, .int .i64 x.val, .int .i64 x.chain, .int .i64 x.dir, .int .i64 x.rank, .int .i64 x.up, .int .i64 x.down, .slice x.cA x.cov.length x.cc] from by simp [signs, sgC, covS]]; exact hown) hg (fun g hg' => by
                have e : g = g3 := by simpa [Value.ownBlock] using hg'.symm
                subst e
                rcases hat with h | h
                · exact .inl h
                · exact .inr (by simp; omega))))
              have nn3 : (Value.slice (some ⟨g3, 0, none⟩) 0 0).ownBlock ≠ some E := fun e => by
                have e : g3 = E := by simpa [Value.ownBlock] using e
                rcases hat with h | h
                · exact na (e ▸ h)
                · omega
              have HE3 := hid ((hg.block E (by simp; omega) (fun e => na e.symm)).trans ((Below.heap_alloc w2 _ E (by omega)).trans (unhid HE2)))
              have hsz3 : E < w3.heap.size := Nat.lt_of_lt_of_le (by simp; omega) hg.size
              clear hown hg hat
              clear d0 d1 d2 d3 d4 d5 d6 d7 d8 hf8
              have hf8 : w3.frozen? ⟨E, 8, none⟩ = false := by simp [World.frozen?, unhid HE3]
              have d0 := cell_of_row _ E 0 _ _ _ (unhid HE3)
              have d1 := cell_of_row _ E 1 _ _ _ (unhid HE3)
              have d2 := cell_of_row _ E 2 _ _ _ (unhid HE3)
              have d3 := cell_of_row _ E 3 _ _ _ (unhid HE3)
              have d4 := cell_of_row _ E 4 _ _ _ (unhid HE3)
              have d5 := cell_of_row _ E 5 _ _ _ (unhid HE3)
              have d6 := cell_of_row _ E 6 _ _ _ (unhid HE3)
              have d7 := cell_of_row _ E 7 _ _ _ (unhid HE3)
              have d8 := cell_of_row _ E 8 _ _ _ (unhid HE3)
              simp at d0 d1 d2 d3 d4 d5 d6 d7 d8
              have HIX := hid (((unhid HI3).set 8 (.slice (some ⟨w3.heap.size, 0, none⟩) 1 1) (by have := unhid HEB; omega) nn3 nb nc nA).span (x := ⟨w3.heap.size, 0, none⟩) (cl' := spans [(x.up, x.down)]) (below_alloc _ (.cells #[.int .i64 x.up, .int .i64 x.down] 47)) (by simp) (by simp) (by have := rdNew1 ((w3).setCell ⟨E, 8, none⟩ (.slice (some ⟨w3.heap.size, 0, none⟩) 1 1)) [.int .i64 x.up, .int .i64 x.down] 47; simpa [spans, spanC] using this))
              go_wp2_with (at_builtin; refine wpList_append_lies _ rfl _ _ 25 rfl W.heap.size 34 i0 _ 9 88 Try.underlying25 hi hz0 hz1 hz2 rfl (by decide) u9 LC.length (signs LC) rfl ?a1 ⟨w3.heap.size + 1, 0, none⟩ 1 1 [.int .i64 x.num, .int .i64 x.kind, .int .i64 x.val, .int .i64 x.chain, .int .i64 x.dir, .int .i64 x.rank, .int .i64 x.up, .int .i64 x.down, .slice (some ⟨w3.heap.size, 0, none⟩) 1 1] rfl rfl ?a2 ?a3 (by omega) ?a4 ?a5 ?a6 (w3.heap.size + 1 + 1) ?a7 ?_)
              case a1 => exact ((unhid HIX).swap2.kept (below_alloc _ _)).owna
              case a2 => exact World.news_of_block (cs := #[.int .i64 x.num, .int .i64 x.kind, .int .i64 x.val, .int .i64 x.chain, .int .i64 x.dir, .int .i64 x.rank, .int .i64 x.up, .int .i64 x.down, .slice (some ⟨w3.heap.size, 0, none⟩) 1 1]) (t := 34) (fr := (0, 0)) (by simpa using heap_alloc_new (((w3).setCell ⟨E, 8, none⟩ (.slice (some ⟨w3.heap.size, 0, none⟩) 1 1)).alloc (.cells #[.int .i64 x.up, .int .i64 x.down] 47)) (.cells #[.int .i64 x.num, .int .i64 x.kind, .int .i64 x.val, .int .i64 x.chain, .int .i64 x.dir, .int .i64 x.rank, .int .i64 x.up, .int .i64 x.down, .slice (some ⟨w3.heap.size, 0, none⟩) 1 1] 34))
              case a3 => simp [Value.oneCell']
              case a4 => unfold maxLen; omega
              case a5 => omega
              case a6 => have := (unhid HIX).below.size; simp; omega
              case a7 => simp
              intro g5 cap5 w5 hown hg hat hlt5
              have HI5 := hid ((((unhid HIX).swap2.kept (below_alloc _ _)).push (la' := LC ++ [covS x (some ⟨w3.heap.size, 0, none⟩) 1]) (by rw [List.length_append, show signs (LC ++ [covS x (some ⟨w3.heap.size, 0, none⟩) 1]) = signs LC ++ [.int .i64 x.num, .int .i64 x.kind, .int .i64 x.val, .int .i64 x.chain, .int .i64 x.dir, .int .i64 x.rank, .int .i64 x.up, .int .i64 x.down, .slice (some ⟨w3.heap.size, 0, none⟩) 1 1] from by simp [signs, sgC, covS]]; exact hown) hg (fun g hg' => by
                have e : g = g5 := by simpa [Value.ownBlock] using hg'.symm
                subst e
                rcases hat with h | h
                · exact .inl h
                · exact .inr (by simp; omega))).swap2)
              clear hown hg hat
              clear d0 d1 d2 d3 d4 d5 d6 d7 d8 hf8
              go_wp2_with fail
              go_roundw
              case rel =>
                refine ⟨q + 1, some ⟨w3.heap.size, 0, none⟩, 1, by omega, by go_num, ?_⟩
                rw [unhid H1, unhid H2, unhid H4 (unhid HEQ), if_pos (unhid HEQ), if_pos (show kk < q + 1 by have := unhid HEQ; omega), unhid HQK (unhid HEQ)]
                simp only [if_true, Bool.false_eq_true, if_false]
                exact unhid HI5
              case measure => simp [intOf]; omega
            · have hb1 : ((q : Int) == (kk : Int)) = false := by simp; omega
              have HNE := hid hqk
              clear hqk
              have HE2 := hid hE2
              clear hE2
              have hf8 : w2.frozen? ⟨E, 8, none⟩ = false := by simp [World.frozen?, unhid HE2]
              have d0 := cell_of_row _ E 0 _ _ _ (unhid HE2)
              have d1 := cell_of_row _ E 1 _ _ _ (unhid HE2)
              have d2 := cell_of_row _ E 2 _ _ _ (unhid HE2)
              have d3 := cell_of_row _ E 3 _ _ _ (unhid HE2)
              have d4 := cell_of_row _ E 4 _ _ _ (unhid HE2)
              have d5 := cell_of_row _ E 5 _ _ _ (unhid HE2)
              have d6 := cell_of_row _ E 6 _ _ _ (unhid HE2)
              have d7 := cell_of_row _ E 7 _ _ _ (unhid HE2)
              have d8 := cell_of_row _ E 8 _ _ _ (unhid HE2)
              simp at d0 d1 d2 d3 d4 d5 d6 d7 d8
              go_wp2_with (at_builtin; refine wpList_append_lies _ rfl _ _ 25 rfl W.heap.size 34 i0 _ 9 88 Try.underlying25 hi hz0 hz1 hz2 rfl (by decide) u7 LA.length (signs LA) rfl ?a1 ⟨w2.heap.size, 0, none⟩ 1 1 [.int .i64 x.num, .int .i64 x.kind, .int .i64 x.val, .int .i64 x.chain, .int .i64 x.dir, .int .i64 x.rank, .int .i64 x.up, .int .i64 x.down, .slice x.cA x.cov.length x.cc] rfl rfl ?a2 ?a3 (by omega) ?a4 ?a5 ?a6 (w2.heap.size + 1) ?a7 ?_)
              case a1 => exact ((unhid HI2).kept (below_alloc _ _)).owna
              case a2 => exact World.news_of_block (cs := #[.int .i64 x.num, .int .i64 x.kind, .int .i64 x.val, .int .i64 x.chain, .int .i64 x.dir, .int .i64 x.rank, .int .i64 x.up, .int .i64 x.down, .slice x.cA x.cov.length x.cc]) (t := 34) (fr := (0, 0)) (by simpa using heap_alloc_new w2 (.cells #[.int .i64 x.num, .int .i64 x.kind, .int .i64 x.val, .int .i64 x.chain, .int .i64 x.dir, .int .i64 x.rank, .int .i64 x.up, .int .i64 x.down, .slice x.cA x.cov.length x.cc] 34))
              case a3 => simp [Value.oneCell']
              case a4 => unfold maxLen; omega
              case a5 => omega
              case a6 => have := (unhid HI2).below.size; simp; omega
              case a7 => simp
              intro g3 cap3 w3 hown hg hat hlt3
              have HI3 := hid ((((unhid HI2).kept (below_alloc _ _)).push (la' := LA ++ [x]) (by rw [List.length_append, show signs (LA ++ [x]) = signs LA ++ [.int .i64 x.num, .int .i64 x.kind, .int .i64 x.val, .int .i64 x.chain, .int .i64 x.dir, .int .i64 x.rank, .int .i64 x.up, .int .i64 x.down, .slice x.cA x.cov.length x.cc] from by simp [signs, sgC, covS]]; exact hown) hg (fun g hg' => by
                have e : g = g3 := by simpa [Value.ownBlock] using hg'.symm
                subst e
                rcases hat with h | h
                · exact .inl h
                · exact .inr (by simp; omega))))
              have nn3 : (Value.slice (some ⟨g3, 0, none⟩) 0 0).ownBlock ≠ some E := fun e => by
                have e : g3 = E := by simpa [Value.ownBlock] using e
                rcases hat with h | h
                · exact na (e ▸ h)
                · omega
              have HE3 := hid ((hg.block E (by simp; omega) (fun e => na e.symm)).trans ((Below.heap_alloc w2 _ E (by omega)).trans (unhid HE2)))
              have hsz3 : E < w3.heap.size := Nat.lt_of_lt_of_le (by simp; omega) hg.size
              clear hown hg hat
              clear d0 d1 d2 d3 d4 d5 d6 d7 d8 hf8
              have hf8 : w3.frozen? ⟨E, 8, none⟩ = false := by simp [World.frozen?, unhid HE3]
              have d0 := cell_of_row _ E 0 _ _ _ (unhid HE3)
              have d1 := cell_of_row _ E 1 _ _ _ (unhid HE3)
              have d2 := cell_of_row _ E 2 _ _ _ (unhid HE3)
              have d3 := cell_of_row _ E 3 _ _ _ (unhid HE3)
              have d4 := cell_of_row _ E 4 _ _ _ (unhid HE3)
              have d5 := cell_of_row _ E 5 _ _ _ (unhid HE3)
              have d6 := cell_of_row _ E 6 _ _ _ (unhid HE3)
              have d7 := cell_of_row _ E 7 _ _ _ (unhid HE3)
              have d8 := cell_of_row _ E 8 _ _ _ (unhid HE3)
              simp at d0 d1 d2 d3 d4 d5 d6 d7 d8
              go_wp2_with (at_builtin; refine wpList_append_lies _ rfl _ _ 25 rfl W.heap.size 34 i0 _ 9 88 Try.underlying25 hi hz0 hz1 hz2 rfl (by decide) u8 LB.length (signs LB) rfl ?a1 ⟨w3.heap.size, 0, none⟩ 1 1 [.int .i64 x.num, .int .i64 x.kind, .int .i64 x.val, .int .i64 x.chain, .int .i64 x.dir, .int .i64 x.rank, .int .i64 x.up, .int .i64 x.down, .slice x.cA x.cov.length x.cc] rfl rfl ?a2 ?a3 (by omega) ?a4 ?a5 ?a6 (w3.heap.size + 1) ?a7 ?_)
              case a1 => exact ((unhid HI3).swap.kept (below_alloc _ _)).owna
              case a2 => exact World.news_of_block (cs := #[.int .i64 x.num, .int .i64 x.kind, .int .i64 x.val, .int .i64 x.chain, .int .i64 x.dir, .int .i64 x.rank, .int .i64 x.up, .int .i64 x.down, .slice x.cA x.cov.length x.cc]) (t := 34) (fr := (0, 0)) (by simpa using heap_alloc_new w3 (.cells #[.int .i64 x.num, .int .i64 x.kind, .int .i64 x.val, .int .i64 x.chain, .int .i64 x.dir, .int .i64 x.rank, .int .i64 x.up, .int .i64 x.down, .slice x.cA x.cov.length x.cc] 34))
              case a3 => simp [Value.oneCell']
              case a4 => unfold maxLen; omega
              case a5 => omega
              case a6 => have := (unhid HI3).below.size; simp; omega
              case a7 => simp
              intro g4 cap4 w4 hown hg hat hlt4
              have HI4 := hid ((((unhid HI3).swap.kept (below_alloc _ _)).push (la' := LB ++ [x]) (by rw [List.length_append, show signs (LB ++ [x]) = signs LB ++ [.int .i64 x.num, .int .i64 x.kind, .int .i64 x.val, .int .i64 x.chain, .int .i64 x.dir, .int .i64 x.rank, .int .i64 x.up, .int .i64 x.down, .slice x.cA x.cov.length x.cc] from by simp [signs, sgC, covS]]; exact hown) hg (fun g hg' => by
                have e : g = g4 := by simpa [Value.ownBlock] using hg'.symm
                subst e
                rcases hat with h | h
                · exact .inl h
                · exact .inr (by simp; omega))).swap)
              have nn4 : (Value.slice (some ⟨g4, 0, none⟩) 0 0).ownBlock ≠ some E := fun e => by
                have e : g4 = E := by simpa [Value.ownBlock] using e
                rcases hat with h | h
                · exact nb (e ▸ h)
                · omega
              have HE4 := hid ((hg.block E (by simp; omega) (fun e => nb e.symm)).trans ((Below.heap_alloc w3 _ E (by omega)).trans (unhid HE3)))
              have hsz4 : E < w4.heap.size := Nat.lt_of_lt_of_le (by simp; omega) hg.size
              clear hown hg hat
              clear d0 d1 d2 d3 d4 d5 d6 d7 d8 hf8
              have hf8 : w4.frozen? ⟨E, 8, none⟩ = false := by simp [World.frozen?, unhid HE4]
              have d0 := cell_of_row _ E 0 _ _ _ (unhid HE4)
              have d1 := cell_of_row _ E 1 _ _ _ (unhid HE4)
              have d2 := cell_of_row _ E 2 _ _ _ (unhid HE4)
              have d3 := cell_of_row _ E 3 _ _ _ (unhid HE4)
              have d4 := cell_of_row _ E 4 _ _ _ (unhid HE4)
              have d5 := cell_of_row _ E 5 _ _ _ (unhid HE4)
              have d6 := cell_of_row _ E 6 _ _ _ (unhid HE4)
              have d7 := cell_of_row _ E 7 _ _ _ (unhid HE4)
              have d8 := cell_of_row _ E 8 _ _ _ (unhid HE4)
              simp at d0 d1 d2 d3 d4 d5 d6 d7 d8
              go_wp2_with (at_builtin; refine wpList_append_lies _ rfl _ _ 25 rfl W.heap.size 34 i0 _ 9 88 Try.underlying25 hi hz0 hz1 hz2 rfl (by decide) u9 LC.length (signs LC) rfl ?a1 ⟨w4.heap.size, 0, none⟩ 1 1 [.int .i64 x.num, .int .i64 x.kind, .int .i64 x.val, .int .i64 x.chain, .int .i64 x.dir, .int .i64 x.rank, .int .i64 x.up, .int .i64 x.down, .slice x.cA x.cov.length x.cc] rfl rfl ?a2 ?a3 (by omega) ?a4 ?a5 ?a6 (w4.heap.size + 1) ?a7 ?_)
              case a1 => exact ((unhid HI4).swap2.kept (below_alloc _ _)).owna
              case a2 => exact World.news_of_block (cs := #[.int .i64 x.num, .int .i64 x.kind, .int .i64 x.val, .int .i64 x.chain, .int .i64 x.dir, .int .i64 x.rank, .int .i64 x.up, .int .i64 x.down, .slice x.cA x.cov.length x.cc]) (t := 34) (fr := (0, 0)) (by simpa using heap_alloc_new w4 (.cells #[.int .i64 x.num, .int .i64 x.kind, .int .i64 x.val, .int .i64 x.chain, .int .i64 x.dir, .int .i64 x.rank, .int .i64 x.up, .int .i64 x.down, .slice x.cA x.cov.length x.cc] 34))
              case a3 => simp [Value.oneCell']
              case a4 => unfold maxLen; omega
              case a5 => omega
              case a6 => have := (unhid HI4).below.size; simp; omega
              case a7 => simp
              intro g5 cap5 w5 hown hg hat hlt5
              have HI5 := hid ((((unhid HI4).swap2.kept (below_alloc _ _)).push (la' := LC ++ [x]) (by rw [List.length_append, show signs (LC ++ [x]) = signs LC ++ [.int .i64 x.num, .int .i64 x.kind, .int .i64 x.val, .int .i64 x.chain, .int .i64 x.dir, .int .i64 x.rank, .int .i64 x.up, .int .i64 x.down, .slice x.cA x.cov.length x.cc] from by simp [signs, sgC, covS]]; exact hown) hg (fun g hg' => by
                have e : g = g5 := by simpa [Value.ownBlock] using hg'.symm
                subst e
                rcases hat with h | h
                · exact .inl h
                · exact .inr (by simp; omega))).swap2)
              clear hown hg hat
              clear d0 d1 d2 d3 d4 d5 d6 d7 d8 hf8
              go_wp2_with fail
              go_roundw
              case rel =>
                refine ⟨q + 1, cA, cc, by omega, by go_num, ?_⟩
                rw [unhid H1, unhid H2, unhid H3, if_neg (unhid HNE), if_neg (unhid HNE)]
                simp only [if_true, Bool.false_eq_true, if_false]
                have h9 := unhid HI5
                rw [ite_iff (show kk < q + 1 ↔ kk < q by have := unhid HNE; omega)]
                exact h9
              case measure => simp [intOf]; omega
          · by_cases hqk : q = kk
            · have hb1 : ((q : Int) == (kk : Int)) = true := by simp; omega
              have HEQ := hid hqk
              clear hqk
              have HE2 := hid hE2
              clear hE2
              have hf8 : w2.frozen? ⟨E, 8, none⟩ = false := by simp [World.frozen?, unhid HE2]
              have d0 := cell_of_row _ E 0 _ _ _ (unhid HE2)
              have d1 := cell_of_row _ E 1 _ _ _ (unhid HE2)
              have d2 := cell_of_row _ E 2 _ _ _ (unhid HE2)
              have d3 := cell_of_row _ E 3 _ _ _ (unhid HE2)
              have d4 := cell_of_row _ E 4 _ _ _ (unhid HE2)
              have d5 := cell_of_row _ E 5 _ _ _ (unhid HE2)
              have d6 := cell_of_row _ E 6 _ _ _ (unhid HE2)
              have d7 := cell_of_row _ E 7 _ _ _ (unhid HE2)
              have d8 := cell_of_row _ E 8 _ _ _ (unhid HE2)
              simp at d0 d1 d2 d3 d4 d5 d6 d7 d8
              have HIX := hid (((unhid HI2).set 8 (.slice (some ⟨w2.heap.size, 0, none⟩) 1 1) (by have := unhid HEB; omega) na nb nc nA).span (x := ⟨w2.heap.size, 0, none⟩) (cl' := spans [(x.up, x.down)]) (below_alloc _ (.cells #[.int .i64 x.up, .int .i64 x.down] 47)) (by simp) (by simp) (by have := rdNew1 ((w2).setCell ⟨E, 8, none⟩ (.slice (some ⟨w2.heap.size, 0, none⟩) 1 1)) [.int .i64 x.up, .int .i64 x.down] 47; simpa [spans, spanC] using this))
              go_wp2_with (at_builtin; refine wpList_append_lies _ rfl _ _ 25 rfl W.heap.size 34 i0 _ 9 88 Try.underlying25 hi hz0 hz1 hz2 rfl (by decide) u9 LC.length (signs LC) rfl ?a1 ⟨w2.heap.size + 1, 0, none⟩ 1 1 [.int .i64 x.num, .int .i64 x.kind, .int .i64 x.val, .int .i64 x.chain, .int .i64 x.dir, .int .i64 x.rank, .int .i64 x.up, .int .i64 x.down, .slice (some ⟨w2.heap.size, 0, none⟩) 1 1] rfl rfl ?a2 ?a3 (by omega) ?a4 ?a5 ?a6 (w2.heap.size + 1 + 1) ?a7 ?_)
              case a1 => exact ((unhid HIX).swap2.kept (below_alloc _ _)).owna
              case a2 => exact World.news_of_block (cs := #[.int .i64 x.num, .int .i64 x.kind, .int .i64 x.val, .int .i64 x.chain, .int .i64 x.dir, .int .i64 x.rank, .int .i64 x.up, .int .i64 x.down, .slice (some ⟨w2.heap.size, 0, none⟩) 1 1]) (t := 34) (fr := (0, 0)) (by simpa using heap_alloc_new (((w2).setCell ⟨E, 8, none⟩ (.slice (some ⟨w2.heap.size, 0, none⟩) 1 1)).alloc (.cells #[.int .i64 x.up, .int .i64 x.down] 47)) (.cells #[.int .i64 x.num, .int .i64 x.kind, .int .i64 x.val, .int .i64 x.chain, .int .i64 x.dir, .int .i64 x.rank, .int .i64 x.up, .int .i64 x.down, .slice (some ⟨w2.heap.size, 0, none⟩) 1 1] 34))
              case a3 => simp [Value.oneCell']
              case a4 => unfold maxLen; omega
              case a5 => omega
              case a6 => have := (unhid HIX).below.size; simp; omega
              case a7 => simp
              intro g5 cap5 w5 hown hg hat hlt5
              have HI5 := hid ((((unhid HIX).swap2.kept (below_alloc _ _)).push (la' := LC ++ [covS x (some ⟨w2.heap.size, 0, none⟩) 1]) (by rw [List.length_append, show signs (LC ++ [covS x (some ⟨w2.heap.size, 0, none⟩) 1]) = signs LC ++ [.int .i64 x.num, .int .i64 x.kind, .int .i64 x.val, .int .i64 x.chain, .int .i64 x.dir, .int .i64 x.rank, .int .i64 x.up, .int .i64 x.down, .slice (some ⟨w2.heap.size, 0, none⟩) 1 1] from by simp [signs, sgC, covS]]; exact hown) hg (fun g hg' => by
                have e : g = g5 := by simpa [Value.ownBlock] using hg'.symm
                subst e
                rcases hat with h | h
                · exact .inl h
                · exact .inr (by simp; omega))).swap2)
              clear hown hg hat
              clear d0 d1 d2 d3 d4 d5 d6 d7 d8 hf8
              go_wp2_with fail
              go_roundw
              case rel =>
                refine ⟨q + 1, some ⟨w2.heap.size, 0, none⟩, 1, by omega, by go_num, ?_⟩
                rw [unhid H1, unhid H2, unhid H4 (unhid HEQ), if_pos (unhid HEQ), if_pos (show kk < q + 1 by have := unhid HEQ; omega), unhid HQK (unhid HEQ)]
                simp only [if_true, Bool.false_eq_true, if_false]
                exact unhid HI5
              case measure => simp [intOf]; omega
            · have hb1 : ((q : Int) == (kk : Int)) = false := by simp; omega
              have HNE := hid hqk
              clear hqk
              have HE2 := hid hE2
              clear hE2
              have hf8 : w2.frozen? ⟨E, 8, none⟩ = false := by simp [World.frozen?, unhid HE2]
              have d0 := cell_of_row _ E 0 _ _ _ (unhid HE2)
              have d1 := cell_of_row _ E 1 _ _ _ (unhid HE2)
              have d2 := cell_of_row _ E 2 _ _ _ (unhid HE2)
              have d3 := cell_of_row _ E 3 _ _ _ (unhid HE2)
              have d4 := cell_of_row _ E 4 _ _ _ (unhid HE2)
              have d5 := cell_of_row _ E 5 _ _ _ (unhid HE2)
              have d6 := cell_of_row _ E 6 _ _ _ (unhid HE2)
              have d7 := cell_of_row _ E 7 _ _ _ (unhid HE2)
              have d8 := cell_of_row _ E 8 _ _ _ (unhid HE2)
              simp at d0 d1 d2 d3 d4 d5 d6 d7 d8
              go_wp2_with (at_builtin; refine wpList_append_lies _ rfl _ _ 25 rfl W.heap.size 34 i0 _ 9 88 Try.underlying25 hi hz0 hz1 hz2 rfl (by decide) u8 LB.length (signs LB) rfl ?a1 ⟨w2.heap.size, 0, none⟩ 1 1 [.int .i64 x.num, .int .i64 x.kind, .int .i64 x.val, .int .i64 x.chain, .int .i64 x.dir, .int .i64 x.rank, .int .i64 x.up, .int .i64 x.down, .slice x.cA x.cov.length x.cc] rfl rfl ?a2 ?a3 (by omega) ?a4 ?a5 ?a6 (w2.heap.size + 1) ?a7 ?_)
              case a1 => exact ((unhid HI2).swap.kept (below_alloc _ _)).owna
              case a2 => exact World.news_of_block (cs := #[.int .i64 x.num, .int .i64 x.kind, .int .i64 x.val, .int .i64 x.chain, .int .i64 x.dir, .int .i64 x.rank, .int .i64 x.up, .int .i64 x.down, .slice x.cA x.cov.length x.cc]) (t := 34) (fr := (0, 0)) (by simpa using heap_alloc_new w2 (.cells #[.int .i64 x.num, .int .i64 x.kind, .int .i64 x.val, .int .i64 x.chain, .int .i64 x.dir, .int .i64 x.rank, .int .i64 x.up, .int .i64 x.down, .slice x.cA x.cov.length x.cc] 34))
              case a3 => simp [Value.oneCell']
              case a4 => unfold maxLen; omega
              case a5 => omega
              case a6 => have := (unhid HI2).below.size; simp; omega
              case a7 => simp
              intro g4 cap4 w4 hown hg hat hlt4
              have HI4 := hid ((((unhid HI2).swap.kept (below_alloc _ _)).push (la' := LB ++ [x]) (by rw [List.length_append, show signs (LB ++ [x]) = signs LB ++ [.int .i64 x.num, .int .i64 x.kind, .int .i64 x.val, .int .i64 x.chain, .int .i64 x.dir, .int .i64 x.rank, .int .i64 x.up, .int .i64 x.down, .slice x.cA x.cov.length x.cc] from by simp [signs, sgC, covS]]; exact hown) hg (fun g hg' => by
                have e : g = g4 := by simpa [Value.ownBlock] using hg'.symm
                subst e
                rcases hat with h | h
                · exact .inl h
                · exact .inr (by simp; omega))).swap)
              have nn4 : (Value.slice (some ⟨g4, 0, none⟩) 0 0).ownBlock ≠ some E := fun e => by
                have e : g4 = E := by simpa [Value.ownBlock] using e
                rcases hat with h | h
                · exact nb (e ▸ h)
                · omega
              have HE4 := hid ((hg.block E (by simp; omega) (fun e => nb e.symm)).trans ((Below.heap_alloc w2 _ E (by omega)).trans (unhid HE2)))
              have hsz4 : E < w4.heap.size := Nat.lt_of_lt_of_le (by simp; omega) hg.size
              clear hown hg hat
              clear d0 d1 d2 d3 d4 d5 d6 d7 d8 hf8
              have hf8 : w4.frozen? ⟨E, 8, none⟩ = false := by simp [World.frozen?, unhid HE4]
              have d0 := cell_of_row _ E 0 _ _ _ (unhid HE4)
              have d1 := cell_of_row _ E 1 _ _ _ (unhid HE4)
              have d2 := cell_of_row _ E 2 _ _ _ (unhid HE4)
              have d3 := cell_of_row _ E 3 _ _ _ (unhid HE4)
              have d4 := cell_of_row _ E 4 _ _ _ (unhid HE4)
              have d5 := cell_of_row _ E 5 _ _ _ (unhid HE4)
              have d6 := cell_of_row _ E 6 _ _ _ (unhid HE4)
              have d7 := cell_of_row _ E 7 _ _ _ (unhid HE4)
              have d8 := cell_of_row _ E 8 _ _ _ (unhid HE4)
              simp at d0 d1 d2 d3 d4 d5 d6 d7 d8
              go_wp2_with (at_builtin; refine wpList_append_lies _ rfl _ _ 25 rfl W.heap.size 34 i0 _ 9 88 Try.underlying25 hi hz0 hz1 hz2 rfl (by decide) u9 LC.length (signs LC) rfl ?a1 ⟨w4.heap.size, 0, none⟩ 1 1 [.int .i64 x.num, .int .i64 x.kind, .int .i64 x.val, .int .i64 x.chain, .int .i64 x.dir, .int .i64 x.rank, .int .i64 x.up, .int .i64 x.down, .slice x.cA x.cov.length x.cc] rfl rfl ?a2 ?a3 (by omega) ?a4 ?a5 ?a6 (w4.heap.size + 1) ?a7 ?_)
              case a1 => exact ((unhid HI4).swap2.kept (below_alloc _ _)).owna
              case a2 => exact World.news_of_block (cs := #[.int .i64 x.num, .int .i64 x.kind, .int .i64 x.val, .int .i64 x.chain, .int .i64 x.dir, .int .i64 x.rank, .int .i64 x.up, .int .i64 x.down, .slice x.cA x.cov.length x.cc]) (t := 34) (fr := (0, 0)) (by simpa using heap_alloc_new w4 (.cells #[.int .i64 x.num, .int .i64 x.kind, .int .i64 x.val, .int .i64 x.chain, .int .i64 x.dir, .int .i64 x.rank, .int .i64 x.up, .int .i64 x.down, .slice x.cA x.cov.length x.cc] 34))
              case a3 => simp [Value.oneCell']
              case a4 => unfold maxLen; omega
              case a5 => omega
              case a6 => have := (unhid HI4).below.size; simp; omega
              case a7 => simp
              intro g5 cap5 w5 hown hg hat hlt5
              have HI5 := hid ((((unhid HI4).swap2.kept (below_alloc _ _)).push (la' := LC ++ [x]) (by rw [List.length_append, show signs (LC ++ [x]) = signs LC ++ [.int .i64 x.num, .int .i64 x.kind, .int .i64 x.val, .int .i64 x.chain, .int .i64 x.dir, .int .i64 x.rank, .int .i64 x.up, .int .i64 x.down, .slice x.cA x.cov.length x.cc] from by simp [signs, sgC, covS]]; exact hown) hg (fun g hg' => by
                have e : g = g5 := by simpa [Value.ownBlock] using hg'.symm
                subst e
                rcases hat with h | h
                · exact .inl h
                · exact .inr (by simp; omega))).swap2)
              clear hown hg hat
              clear d0 d1 d2 d3 d4 d5 d6 d7 d8 hf8
              go_wp2_with fail
              go_roundw
              case rel =>
                refine ⟨q + 1, cA, cc, by omega, by go_num, ?_⟩
                rw [unhid H1, unhid H2, unhid H3, if_neg (unhid HNE), if_neg (unhid HNE)]
                simp only [if_true, Bool.false_eq_true, if_false]
                have h9 := unhid HI5
                rw [ite_iff (show kk < q + 1 ↔ kk < q by have := unhid HNE; omega)]
                exact h9
              case measure => simp [intOf]; omega
        · have hqn : q = l.length := by omega
          subst hqn
          rw [if_pos hkk] at HI
          have HOK2 := unhid HOK
          have hnd := sgsB_nodup HOK2.signs
          have HLA := hid (show spoken hour l l.length = l.filter fun s => spkB s hour by simp [spoken])
          rw [unhid HLA] at HI
          rw [List.take_length] at HI
          have hgk : l[kk] = sK := by have := unhid HSK; rw [List.getElem?_eq_getElem hkk] at this; injection this
          have HVA := hid (sgsB_sub HOK2.signs (List.filter_sublist (l := l) (p := fun s => spkB s hour)))
          have HVB := hid (sgsB_sub HOK2.signs (List.eraseIdx_sublist l kk))
          have HVC := hid (show sgsB n js (l.set kk (covS sK cA cc)) = true from by rw [← hgk]; exact sgsB_covered hkk HOK2.signs)
          have HPA := hid (selP_speaking n hour dir l)
          have HPC := hid (show selP n hour dir (l.set kk (covS sK cA cc)) = selP n hour dir (l.eraseIdx kk) from by unfold covS; exact selP_covered n hour dir l kk hkk cA cc sK)
          have HNB := hid (hnd.sublist ((List.eraseIdx_sublist l kk).map Sg.num))
          have HOS := hid (((unhid HS).below hbel))
          have hskl : sK ∈ l := by rw [← hgk]; exact List.getElem_mem hkk
          have HSA := hid (fun s (h : s ∈ l.filter fun s => spkB s hour) => (unhid HOS).all s (List.mem_filter.1 h).1)
          have HSB := hid (fun s (h : s ∈ l.eraseIdx kk) => (unhid HOS).all s ((List.eraseIdx_sublist l kk).subset h))
          have HSC := hid (fun s (h : s ∈ l.set kk (covS sK cA cc)) => (show SgOk wr s from by
            rcases List.mem_or_eq_of_mem_set h with h | h
            · exact (unhid HOS).all s h
            · subst h; exact ⟨by simp [covS], (unhid HI).rd, ((unhid HOS).all sK hskl).num⟩))
          have HLnA := hid (Nat.le_trans (List.length_filter_le (fun s => spkB s hour) l) hl100)
          have HLnB := hid (Nat.le_trans (List.length_eraseIdx_le l kk) hl100)
          have HLnC := hid (show (l.set kk (covS sK cA cc)).length ≤ 100 by simpa using hl100)
          clear hgk hskl HLA
          have HMA := hid (askedE_ok HOK2.line HOK2.signs HOK2.hour HOK2.dir HOK2.topic)
          have HZ := hid (fun L (h : sgsB n js L = true) => (show holdsE n js L hour dir topic mm = 0 from by
            have := askedE_ok (l := L) HOK2.line h HOK2.hour HOK2.dir HOK2.topic
            simp only [holdsE, this, ne_eq, not_true, if_false]
            rw [if_pos ⟨by omega, by omega⟩]))
          generalize hlA : l.filter (fun s => spkB s hour) = LA at *
          generalize hlB : l.eraseIdx kk = LB at *
          generalize hlC : l.set kk (covS sK cA cc) = LC at *
          clear hlA hlB hlC
          obtain ⟨Aa, ca, ha, hra, -⟩ := own_slice (unhid HI).owna
          obtain ⟨Ab, cb, hb', hrb, -⟩ := own_slice (unhid HI).ownb
          obtain ⟨Ac, cx, hc', hrc, -⟩ := own_slice (unhid HI).ownc
          subst ha hb' hc'
          have SA := hid (show SgsOk wr Aa LA from ⟨by have := unhid HLnA; omega, hra, unhid HSA⟩)
          have SB := hid (show SgsOk wr Ab LB from ⟨by have := unhid HLnB; omega, hrb, unhid HSB⟩)
          have SC := hid (show SgsOk wr Ac LC from ⟨by have := unhid HLnC; omega, hrc, unhid HSC⟩)
          have HLr := hid ((unhid HL).below hbel)
          clear hra hrb hrc HSA HSB HSC HLnA HLnB HLnC HI HOK2
          have hb0 := Below.refl wr.heap.size wr
          have HVO := hid (unhid HOK).signs
          have HND := hid hnd
          clear hnd
          obtain ⟨wl, rfl⟩ : ∃ wl : World, wl = wr := ⟨_, rfl⟩
          have HBL := hid hbel
          clear hbel
          go_wp2_with fail
          refine (holds_calls n A js c A2 l c2 hour dir topic mm _ ((unhid HLr).below hb0) ((unhid HOS).below hb0) il).mono ?_
          rintro e w1 ⟨v1, rfl, hz, hnz, hbn⟩
          rw [unhid HZ l (unhid HVO)]
          obtain ⟨R1, hrow1, hv1⟩ := hz (unhid HZ l (unhid HVO))
          have HR1 := hid hrow1
          have HV1 := hid hv1
          have hb1 : Below wl.heap.size wl w1 := hb0.trans (hbn.mono hb0.size)
          clear hz hnz hbn hrow1 hv1 e0 e1 e2 e3 e4 e5 e6 e7
          obtain ⟨e0, e1, e2, e3, e4, e5, e6, e7⟩ := (HA.below ((unhid HBL).trans (hb1.mono (unhid HBL).size))).cells
          go_wp2_with fail
          refine (holds_calls n A js c Aa LA ca hour dir topic mm _ ((unhid HLr).below hb1) ((unhid SA).below hb1) il).mono ?_
          rintro e w2 ⟨v2, rfl, hz, hnz, hbn⟩
          rw [unhid HZ LA (unhid HVA)]
          obtain ⟨R2, hrow2, hv2⟩ := hz (unhid HZ LA (unhid HVA))
          have HR2 := hid hrow2
          have HV2 := hid hv2
          have hb2 : Below wl.heap.size wl w2 := hb1.trans (hbn.mono hb1.size)
          clear hz hnz hbn hrow2 hv2 e0 e1 e2 e3 e4 e5 e6 e7
          obtain ⟨e0, e1, e2, e3, e4, e5, e6, e7⟩ := (HA.below ((unhid HBL).trans (hb2.mono (unhid HBL).size))).cells
          have E2 : v2 = v1 := by
            rw [unhid HV2, unhid HV1, row_unique (unhid HR1) (unhid HR2) (by rw [unhid HPA]) (unhid HND)]
          subst E2
          go_wp2_with fail
          refine (holds_calls n A js c Ab LB cb hour dir topic mm _ ((unhid HLr).below hb2) ((unhid SB).below hb2) il).mono ?_
          rintro e w3 ⟨v3, rfl, hz, hnz, hbn⟩
          rw [unhid HZ LB (unhid HVB)]
          obtain ⟨R3, hrow3, hv3⟩ := hz (unhid HZ LB (unhid HVB))
          have HR3 := hid hrow3
          have HV3 := hid hv3
          have hb3 : Below wl.heap.size wl w3 := hb2.trans (hbn.mono hb2.size)
          clear hz hnz hbn hrow3 hv3 e0 e1 e2 e3 e4 e5 e6 e7
          obtain ⟨e0, e1, e2, e3, e4, e5, e6, e7⟩ := (HA.below ((unhid HBL).trans (hb3.mono (unhid HBL).size))).cells
          go_wp2_with fail
          refine (holds_calls n A js c Ac LC cx hour dir topic mm _ ((unhid HLr).below hb3) ((unhid SC).below hb3) il).mono ?_
          rintro e w4 ⟨v4, rfl, hz, hnz, hbn⟩
          rw [unhid HZ LC (unhid HVC)]
          obtain ⟨R4, hrow4, hv4⟩ := hz (unhid HZ LC (unhid HVC))
          have HR4 := hid hrow4
          have HV4 := hid hv4
          have hb4 : Below wl.heap.size wl w4 := hb3.trans (hbn.mono hb3.size)
          clear hz hnz hbn hrow4 hv4 e0 e1 e2 e3 e4 e5 e6 e7
          obtain ⟨e0, e1, e2, e3, e4, e5, e6, e7⟩ := (HA.below ((unhid HBL).trans (hb4.mono (unhid HBL).size))).cells
          have E4 : v4 = v3 := by
            rw [unhid HV4, unhid HV3, row_unique (unhid HR3) (unhid HR4) (by rw [unhid HPC]) (unhid HNB)]
          subst E4
          have t1 : (v2 != v2) = false := by simp
          have t2 : (v4 != v4) = false := by simp
          clear HR1 HR2 HR3 HR4 HV1 HV2 HV3 HV4 HVA HVB HVC HPA HPC HNB SA SB SC
          have HSI2 := hid (SilI.start w4)
          have HB4 := hid ((unhid HBL).trans (hb4.mono (unhid HBL).size))
          have HA4 := HA.below (unhid HB4)
          have HS4 := hid ((unhid HS).below (unhid HB4))
          have HL4 := hid ((unhid HL).below (unhid HB4))
          clear hb0 hb1 hb2 hb3 hb4
          go_wp2_with fail
          clear e0 e1 e2 e3 e4 e5 e6 e7
          go_loopw [20, 21, 22] (fun bb aa i wr => ∃ (q : Nat), q ≤ l.length ∧ i = .int .i64 q ∧ SilI wr w4 aa bb (.slice none 0 0) ((l.take q).filter notPl) ((l.take q).filter notWr) [] none []) (fun _ _ i _ => l.length - (intOf i).toNat)
          case atStart => exact ⟨0, Nat.zero_le _, rfl, unhid HSI2⟩
          case round =>
            obtain ⟨q, hq, rfl, hI⟩ := hrel
            have hbel := hI.below
            have HI := hid hI
            clear hI
            have HAr := HA4.below hbel
            obtain ⟨e0, e1, e2, e3, e4, e5, e6, e7⟩ := HAr.cells
            by_cases hlt : q < l.length
            · obtain ⟨b, off, hA2, hb, hc⟩ := ((unhid HS4).below hbel).rd (signs_ne hlt)
              rw [hA2] at e2
              obtain ⟨m0, m1, m2, m3, m4, m5, m6, m7, m8⟩ := signs_cells hc hlt
              clear hc
              have HA2' := hid hA2
              clear hA2
              have H1 := hid (filter_succ (p := notPl) hlt)
              have H2 := hid (filter_succ (p := notWr) hlt)
              have hll : ((l.take q).filter notPl).length ≤ 100 ∧ ((l.take q).filter notWr).length ≤ 100 :=
                ⟨Nat.le_trans (List.length_filter_le _ _) (by simp; omega), Nat.le_trans (List.length_filter_le _ _) (by simp; omega)⟩
              obtain ⟨hl1', hl2'⟩ := hll
              generalize hx : l[q] = x at *
              clear hx
              generalize hlA : (l.take q).filter notPl = LA at *
              generalize hlB : (l.take q).filter notWr = LB at *
              clear hlA hlB
              have hBr := HAr.lt
              have hWr := hbel.size
              have hEs : (wr.alloc (.cells #[.int .i64 x.num, .int .i64 x.kind, .int .i64 x.val, .int .i64 x.chain, .int .i64 x.dir, .int .i64 x.rank, .int .i64 x.up, .int .i64 x.down, .slice x.cA x.cov.length x.cc] 34)).heap[wr.heap.size]? = some (.cells #[.int .i64 x.num, .int .i64 x.kind, .int .i64 x.val, .int .i64 x.chain, .int .i64 x.dir, .int .i64 x.rank, .int .i64 x.up, .int .i64 x.down, .slice x.cA x.cov.length x.cc] 34 (0, 0)) := heap_alloc_new _ _
              have HI2 := hid ((unhid HI).kept (below_alloc _ (.cells #[.int .i64 x.num, .int .i64 x.kind, .int .i64 x.val, .int .i64 x.chain, .int .i64 x.dir, .int .i64 x.rank, .int .i64 x.up, .int .i64 x.down, .slice x.cA x.cov.length x.cc] 34)))
              have na : u21.ownBlock ≠ some wr.heap.size := fun e => by have := (own_lt (unhid HI).owna e).2; omega
              have nb : u20.ownBlock ≠ some wr.heap.size := fun e => by have := (own_lt (unhid HI).ownb e).2; omega
              by_cases k7 : x.kind = 7
              · have k7' : (x.kind != 7) = false := by simpa using k7
                have hp1 : ¬ notPl x = true := by simp [notPl, k7]
                have hp2 : ¬ notWr x = true := by simp [notWr, k7]
                have HP1 := hid hp1
                have HP2 := hid hp2
                clear hp1 hp2 k7 hEs
                go_wp2_with fail
                go_roundw
                case rel => exact ⟨q + 1, by omega, by go_num, by rw [unhid H1, unhid H2, if_neg (unhid HP1), if_neg (unhid HP2)]; exact unhid HI2⟩
                case measure => simp [intOf]; omega
              · have k7' : (x.kind != 7) = true := by simpa using k7
                have hp1 : notPl x = true := by simp [notPl, k7]
                have HP1 := hid hp1
                have HK7 := hid k7
                clear hp1 k7
                go_upto_if 182 with (fail)
                have HEB := hid hWr
                have HBEL := hid hbel
                clear hbel
                generalize hEb : wr.heap.size = E at *
                generalize hw2 : wr.alloc (.cells #[.int .i64 x.num, .int .i64 x.kind, .int .i64 x.val, .int .i64 x.chain, .int .i64 x.dir, .int .i64 x.rank, .int .i64 x.up, .int .i64 x.down, .slice x.cA x.cov.length x.cc] 34) = w5 at *
                rcases (show (x.kind = 8) ∨ (¬ x.kind = 8 ∧ x.kind = 6) ∨ (¬ x.kind = 8 ∧ ¬ x.kind = 6) by omega) with g | ⟨g, g6⟩ | ⟨g, g6⟩
                · have g8 : (x.kind != 8) = false := by simpa using g
                  have hp2 : ¬ notWr x = true := by simp [notWr, g]
                  clear g
                  have HP2 := hid hp2
                  clear hp2
                  have HE5 := hid hEs
                  have hsz5 : E < w5.heap.size := (Array.getElem?_eq_some_iff.1 hEs).1
                  clear hEs e0 e1 e2 e3 e4 e5 e6 e7 m0 m1 m2 m3 m4 m5 m6 m7 m8
                  have hf8 : w5.frozen? ⟨E, 8, none⟩ = false := by simp [World.frozen?, unhid HE5]
                  have d0 := cell_of_row _ E 0 _ _ _ (unhid HE5)
                  have d1 := cell_of_row _ E 1 _ _ _ (unhid HE5)
                  have d2 := cell_of_row _ E 2 _ _ _ (unhid HE5)
                  have d3 := cell_of_row _ E 3 _ _ _ (unhid HE5)
                  have d4 := cell_of_row _ E 4 _ _ _ (unhid HE5)
                  have d5 := cell_of_row _ E 5 _ _ _ (unhid HE5)
                  have d6 := cell_of_row _ E 6 _ _ _ (unhid HE5)
                  have d7 := cell_of_row _ E 7 _ _ _ (unhid HE5)
                  have d8 := cell_of_row _ E 8 _ _ _ (unhid HE5)
                  simp at d0 d1 d2 d3 d4 d5 d6 d7 d8
                  go_wp2_with (at_builtin; refine wpList_append_lies _ rfl _ _ 25 rfl w4.heap.size 34 i0 _ 9 88 Try.underlying25 hi hz0 hz1 hz2 rfl (by decide) u21 LA.length (signs LA) rfl ?a1 ⟨w5.heap.size, 0, none⟩ 1 1 [.int .i64 x.num, .int .i64 x.kind, .int .i64 x.val, .int .i64 x.chain, .int .i64 x.dir, .int .i64 x.rank, .int .i64 x.up, .int .i64 x.down, .slice x.cA x.cov.length x.cc] rfl rfl ?a2 ?a3 (by omega) ?a4 ?a5 ?a6 (w5.heap.size + 1) ?a7 ?_)
                  case a1 => exact ((unhid HI2).kept (below_alloc _ _)).owna
                  case a2 => exact World.news_of_block (cs := #[.int .i64 x.num, .int .i64 x.kind, .int .i64 x.val, .int .i64 x.chain, .int .i64 x.dir, .int .i64 x.rank, .int .i64 x.up, .int .i64 x.down, .slice x.cA x.cov.length x.cc]) (t := 34) (fr := (0, 0)) (by simpa using heap_alloc_new w5 (.cells #[.int .i64 x.num, .int .i64 x.kind, .int .i64 x.val, .int .i64 x.chain, .int .i64 x.dir, .int .i64 x.rank, .int .i64 x.up, .int .i64 x.down, .slice x.cA x.cov.length x.cc] 34))
                  case a3 => simp [Value.oneCell']
                  case a4 => unfold maxLen; omega
                  case a5 => omega
                  case a6 => have := (unhid HI2).below.size; simp; omega
                  case a7 => simp
                  intro g6 cap6 w6 hown hg hat hlt6
                  have HI6 := hid ((((unhid HI2).kept (below_alloc _ _)).push (la' := LA ++ [x]) (by rw [List.length_append, show signs (LA ++ [x]) = signs LA ++ [.int .i64 x.num, .int .i64 x.kind, .int .i64 x.val, .int .i64 x.chain, .int .i64 x.dir, .int .i64 x.rank, .int .i64 x.up, .int .i64 x.down, .slice x.cA x.cov.length x.cc] from by simp [signs, sgC, covS]]; exact hown) hg (fun g hg' => by
                    have e : g = g6 := by simpa [Value.ownBlock] using hg'.symm
                    subst e
                    rcases hat with h | h
                    · exact .inl h
                    · exact .inr (by simp; omega))))
                  have nn6 : (Value.slice (some ⟨g6, 0, none⟩) 0 0).ownBlock ≠ some E := fun e => by
                    have e : g6 = E := by simpa [Value.ownBlock] using e
                    rcases hat with h | h
                    · exact na (e ▸ h)
                    · omega
                  have HE6 := hid ((hg.block E (by simp; omega) (fun e => na e.symm)).trans ((Below.heap_alloc w5 _ E (by omega)).trans (unhid HE5)))
                  have hsz6 : E < w6.heap.size := Nat.lt_of_lt_of_le (by simp; omega) hg.size
                  clear hown hg hat
                  clear d0 d1 d2 d3 d4 d5 d6 d7 d8 hf8
                  have hf8 : w6.frozen? ⟨E, 8, none⟩ = false := by simp [World.frozen?, unhid HE6]
                  have d0 := cell_of_row _ E 0 _ _ _ (unhid HE6)
                  have d1 := cell_of_row _ E 1 _ _ _ (unhid HE6)
                  have d2 := cell_of_row _ E 2 _ _ _ (unhid HE6)
                  have d3 := cell_of_row _ E 3 _ _ _ (unhid HE6)
                  have d4 := cell_of_row _ E 4 _ _ _ (unhid HE6)
                  have d5 := cell_of_row _ E 5 _ _ _ (unhid HE6)
                  have d6 := cell_of_row _ E 6 _ _ _ (unhid HE6)
                  have d7 := cell_of_row _ E 7 _ _ _ (unhid HE6)
                  have d8 := cell_of_row _ E 8 _ _ _ (unhid HE6)
                  simp at d0 d1 d2 d3 d4 d5 d6 d7 d8
                  go_wp2_with fail
                  go_roundw
                  case rel => exact ⟨q + 1, by omega, by go_num, by rw [unhid H1, unhid H2, if_pos (unhid HP1), if_neg (unhid HP2)]; exact unhid HI6⟩
                  case measure => simp [intOf]; omega
                · have g8 : (x.kind != 8) = true := by simpa using g
                  have g66 : (x.kind != 6) = false := by simpa using g6
                  have hp2 : ¬ notWr x = true := by simp [notWr, g6]
                  clear g g6
                  have HP2 := hid hp2
                  clear hp2
                  have HE5 := hid hEs
                  have hsz5 : E < w5.heap.size := (Array.getElem?_eq_some_iff.1 hEs).1
                  clear hEs e0 e1 e2 e3 e4 e5 e6 e7 m0 m1 m2 m3 m4 m5 m6 m7 m8
                  have hf8 : w5.frozen? ⟨E, 8, none⟩ = false := by simp [World.frozen?, unhid HE5]
                  have d0 := cell_of_row _ E 0 _ _ _ (unhid HE5)
                  have d1 := cell_of_row _ E 1 _ _ _ (unhid HE5)
                  have d2 := cell_of_row _ E 2 _ _ _ (unhid HE5)
                  have d3 := cell_of_row _ E 3 _ _ _ (unhid HE5)
                  have d4 := cell_of_row _ E 4 _ _ _ (unhid HE5)
                  have d5 := cell_of_row _ E 5 _ _ _ (unhid HE5)
                  have d6 := cell_of_row _ E 6 _ _ _ (unhid HE5)
                  have d7 := cell_of_row _ E 7 _ _ _ (unhid HE5)
                  have d8 := cell_of_row _ E 8 _ _ _ (unhid HE5)
                  simp at d0 d1 d2 d3 d4 d5 d6 d7 d8
                  go_wp2_with (at_builtin; refine wpList_append_lies _ rfl _ _ 25 rfl w4.heap.size 34 i0 _ 9 88 Try.underlying25 hi hz0 hz1 hz2 rfl (by decide) u21 LA.length (signs LA) rfl ?a1 ⟨w5.heap.size, 0, none⟩ 1 1 [.int .i64 x.num, .int .i64 x.kind, .int .i64 x.val, .int .i64 x.chain, .int .i64 x.dir, .int .i64 x.rank, .int .i64 x.up, .int .i64 x.down, .slice x.cA x.cov.length x.cc] rfl rfl ?a2 ?a3 (by omega) ?a4 ?a5 ?a6 (w5.heap.size + 1) ?a7 ?_)
                  case a1 => exact ((unhid HI2).kept (below_alloc _ _)).owna
                  case a2 => exact World.news_of_block (cs := #[.int .i64 x.num, .int .i64 x.kind, .int .i64 x.val, .int .i64 x.chain, .int .i64 x.dir, .int .i64 x.rank, .int .i64 x.up, .int .i64 x.down, .slice x.cA x.cov.length x.cc]) (t := 34) (fr := (0, 0)) (by simpa using heap_alloc_new w5 (.cells #[.int .i64 x.num, .int .i64 x.kind, .int .i64 x.val, .int .i64 x.chain, .int .i64 x.dir, .int .i64 x.rank, .int .i64 x.up, .int .i64 x.down, .slice x.cA x.cov.length x.cc] 34))
                  case a3 => simp [Value.oneCell']
                  case a4 => unfold maxLen; omega
                  case a5 => omega
                  case a6 => have := (unhid HI2).below.size; simp; omega
                  case a7 => simp
                  intro g6 cap6 w6 hown hg hat hlt6
                  have HI6 := hid ((((unhid HI2).kept (below_alloc _ _)).push (la' := LA ++ [x]) (by rw [List.length_append, show signs (LA ++ [x]) = signs LA ++ [.int .i64 x.num, .int .i64 x.kind, .int .i64 x.val, .int .i64 x.chain, .int .i64 x.dir, .int .i64 x.rank, .int .i64 x.up, .int .i64 x.down, .slice x.cA x.cov.length x.cc] from by simp [signs, sgC, covS]]; exact hown) hg (fun g hg' => by
                    have e : g = g6 := by simpa [Value.ownBlock] using hg'.symm
                    subst e
                    rcases hat with h | h
                    · exact .inl h
                    · exact .inr (by simp; omega))))
                  have nn6 : (Value.slice (some ⟨g6, 0, none⟩) 0 0).ownBlock ≠ some E := fun e => by
                    have e : g6 = E := by simpa [Value.ownBlock] using e
                    rcases hat with h | h
                    · exact na (e ▸ h)
                    · omega
                  have HE6 := hid ((hg.block E (by simp; omega) (fun e => na e.symm)).trans ((Below.heap_alloc w5 _ E (by omega)).trans (unhid HE5)))
                  have hsz6 : E < w6.heap.size := Nat.lt_of_lt_of_le (by simp; omega) hg.size
                  clear hown hg hat
                  clear d0 d1 d2 d3 d4 d5 d6 d7 d8 hf8
                  have hf8 : w6.frozen? ⟨E, 8, none⟩ = false := by simp [World.frozen?, unhid HE6]
                  have d0 := cell_of_row _ E 0 _ _ _ (unhid HE6)
                  have d1 := cell_of_row _ E 1 _ _ _ (unhid HE6)
                  have d2 := cell_of_row _ E 2 _ _ _ (unhid HE6)
                  have d3 := cell_of_row _ E 3 _ _ _ (unhid HE6)
                  have d4 := cell_of_row _ E 4 _ _ _ (unhid HE6)
                  have d5 := cell_of_row _ E 5 _ _ _ (unhid HE6)
                  have d6 := cell_of_row _ E 6 _ _ _ (unhid HE6)
                  have d7 := cell_of_row _ E 7 _ _ _ (unhid HE6)
                  have d8 := cell_of_row _ E 8 _ _ _ (unhid HE6)
                  simp at d0 d1 d2 d3 d4 d5 d6 d7 d8
                  go_wp2_with fail
                  go_roundw
                  case rel => exact ⟨q + 1, by omega, by go_num, by rw [unhid H1, unhid H2, if_pos (unhid HP1), if_neg (unhid HP2)]; exact unhid HI6⟩
                  case measure => simp [intOf]; omega
                · have g8 : (x.kind != 8) = true := by simpa using g
                  have g66 : (x.kind != 6) = true := by simpa using g6
                  have hp2 : notWr x = true := by simp [notWr, unhid HK7, g, g6]
                  clear g g6
                  have HP2 := hid hp2
                  clear hp2
                  have HE5 := hid hEs
                  have hsz5 : E < w5.heap.size := (Array.getElem?_eq_some_iff.1 hEs).1
                  clear hEs e0 e1 e2 e3 e4 e5 e6 e7 m0 m1 m2 m3 m4 m5 m6 m7 m8
                  have hf8 : w5.frozen? ⟨E, 8, none⟩ = false := by simp [World.frozen?, unhid HE5]
                  have d0 := cell_of_row _ E 0 _ _ _ (unhid HE5)
                  have d1 := cell_of_row _ E 1 _ _ _ (unhid HE5)
                  have d2 := cell_of_row _ E 2 _ _ _ (unhid HE5)
                  have d3 := cell_of_row _ E 3 _ _ _ (unhid HE5)
                  have d4 := cell_of_row _ E 4 _ _ _ (unhid HE5)
                  have d5 := cell_of_row _ E 5 _ _ _ (unhid HE5)
                  have d6 := cell_of_row _ E 6 _ _ _ (unhid HE5)
                  have d7 := cell_of_row _ E 7 _ _ _ (unhid HE5)
                  have d8 := cell_of_row _ E 8 _ _ _ (unhid HE5)
                  simp at d0 d1 d2 d3 d4 d5 d6 d7 d8
                  go_wp2_with (at_builtin; refine wpList_append_lies _ rfl _ _ 25 rfl w4.heap.size 34 i0 _ 9 88 Try.underlying25 hi hz0 hz1 hz2 rfl (by decide) u21 LA.length (signs LA) rfl ?a1 ⟨w5.heap.size, 0, none⟩ 1 1 [.int .i64 x.num, .int .i64 x.kind, .int .i64 x.val, .int .i64 x.chain, .int .i64 x.dir, .int .i64 x.rank, .int .i64 x.up, .int .i64 x.down, .slice x.cA x.cov.length x.cc] rfl rfl ?a2 ?a3 (by omega) ?a4 ?a5 ?a6 (w5.heap.size + 1) ?a7 ?_)
                  case a1 => exact ((unhid HI2).kept (below_alloc _ _)).owna
                  case a2 => exact World.news_of_block (cs := #[.int .i64 x.num, .int .i64 x.kind, .int .i64 x.val, .int .i64 x.chain, .int .i64 x.dir, .int .i64 x.rank, .int .i64 x.up, .int .i64 x.down, .slice x.cA x.cov.length x.cc]) (t := 34) (fr := (0, 0)) (by simpa using heap_alloc_new w5 (.cells #[.int .i64 x.num, .int .i64 x.kind, .int .i64 x.val, .int .i64 x.chain, .int .i64 x.dir, .int .i64 x.rank, .int .i64 x.up, .int .i64 x.down, .slice x.cA x.cov.length x.cc] 34))
                  case a3 => simp [Value.oneCell']
                  case a4 => unfold maxLen; omega
                  case a5 => omega
                  case a6 => have := (unhid HI2).below.size; simp; omega
                  case a7 => simp
                  intro g6 cap6 w6 hown hg hat hlt6
                  have HI6 := hid ((((unhid HI2).kept (below_alloc _ _)).push (la' := LA ++ [x]) (by rw [List.length_append, show signs (LA ++ [x]) = signs LA ++ [.int .i64 x.num, .int .i64 x.kind, .int .i64 x.val, .int .i64 x.chain, .int .i64 x.dir, .int .i64 x.rank, .int .i64 x.up, .int .i64 x.down, .slice x.cA x.cov.length x.cc] from by simp [signs, sgC, covS]]; exact hown) hg (fun g hg' => by
                    have e : g = g6 := by simpa [Value.ownBlock] using hg'.symm
                    subst e
                    rcases hat with h | h
                    · exact .inl h
                    · exact .inr (by simp; omega))))
                  have nn6 : (Value.slice (some ⟨g6, 0, none⟩) 0 0).ownBlock ≠ some E := fun e => by
                    have e : g6 = E := by simpa [Value.ownBlock] using e
                    rcases hat with h | h
                    · exact na (e ▸ h)
                    · omega
                  have HE6 := hid ((hg.block E (by simp; omega) (fun e => na e.symm)).trans ((Below.heap_alloc w5 _ E (by omega)).trans (unhid HE5)))
                  have hsz6 : E < w6.heap.size := Nat.lt_of_lt_of_le (by simp; omega) hg.size
                  clear hown hg hat
                  clear d0 d1 d2 d3 d4 d5 d6 d7 d8 hf8
                  have hf8 : w6.frozen? ⟨E, 8, none⟩ = false := by simp [World.frozen?, unhid HE6]
                  have d0 := cell_of_row _ E 0 _ _ _ (unhid HE6)
                  have d1 := cell_of_row _ E 1 _ _ _ (unhid HE6)
                  have d2 := cell_of_row _ E 2 _ _ _ (unhid HE6)
                  have d3 := cell_of_row _ E 3 _ _ _ (unhid HE6)
                  have d4 := cell_of_row _ E 4 _ _ _ (unhid HE6)
                  have d5 := cell_of_row _ E 5 _ _ _ (unhid HE6)
                  have d6 := cell_of_row _ E 6 _ _ _ (unhid HE6)
                  have d7 := cell_of_row _ E 7 _ _ _ (unhid HE6)
                  have d8 := cell_of_row _ E 8 _ _ _ (unhid HE6)
                  simp at d0 d1 d2 d3 d4 d5 d6 d7 d8
                  go_wp2_with (at_builtin; refine wpList_append_lies _ rfl _ _ 25 rfl w4.heap.size 34 i0 _ 9 88 Try.underlying25 hi hz0 hz1 hz2 rfl (by decide) u20 LB.length (signs LB) rfl ?a1 ⟨w6.heap.size, 0, none⟩ 1 1 [.int .i64 x.num, .int .i64 x.kind, .int .i64 x.val, .int .i64 x.chain, .int .i64 x.dir, .int .i64 x.rank, .int .i64 x.up, .int .i64 x.down, .slice x.cA x.cov.length x.cc] rfl rfl ?a2 ?a3 (by omega) ?a4 ?a5 ?a6 (w6.heap.size + 1) ?a7 ?_)
                  case a1 => exact ((unhid HI6).swap.kept (below_alloc _ _)).owna
                  case a2 => exact World.news_of_block (cs := #[.int .i64 x.num, .int .i64 x.kind, .int .i64 x.val, .int .i64 x.chain, .int .i64 x.dir, .int .i64 x.rank, .int .i64 x.up, .int .i64 x.down, .slice x.cA x.cov.length x.cc]) (t := 34) (fr := (0, 0)) (by simpa using heap_alloc_new w6 (.cells #[.int .i64 x.num, .int .i64 x.kind, .int .i64 x.val, .int .i64 x.chain, .int .i64 x.dir, .int .i64 x.rank, .int .i64 x.up, .int .i64 x.down, .slice x.cA x.cov.length x.cc] 34))
                  case a3 => simp [Value.oneCell']
                  case a4 => unfold maxLen; omega
                  case a5 => omega
                  case a6 => have := (unhid HI6).below.size; simp; omega
                  case a7 => simp
                  intro g7 cap7 w7 hown hg hat hlt7
                  have HI7 := hid ((((unhid HI6).swap.kept (below_alloc _ _)).push (la' := LB ++ [x]) (by rw [List.length_append, show signs (LB ++ [x]) = signs LB ++ [.int .i64 x.num, .int .i64 x.kind, .int .i64 x.val, .int .i64 x.chain, .int .i64 x.dir, .int .i64 x.rank, .int .i64 x.up, .int .i64 x.down, .slice x.cA x.cov.length x.cc] from by simp [signs, sgC, covS]]; exact hown) hg (fun g hg' => by
                    have e : g = g7 := by simpa [Value.ownBlock] using hg'.symm
                    subst e
                    rcases hat with h | h
                    · exact .inl h
                    · exact .inr (by simp; omega))).swap)
                  clear hown hg hat
                  clear d0 d1 d2 d3 d4 d5 d6 d7 d8 hf8
                  go_wp2_with fail
                  go_roundw
                  case rel => exact ⟨q + 1, by omega, by go_num, by rw [unhid H1, unhid H2, if_pos (unhid HP1), if_pos (unhid HP2)]; exact unhid HI7⟩
                  case measure => simp [intOf]; omega
            · have hqn : q = l.length := by omega
              subst hqn
              rw [List.take_length] at HI
              have hbw : Below W.heap.size W wr := (unhid HB4).trans (hbel.mono (unhid HB4).size)
              have HVA := hid (sgsB_sub (unhid HVO) (List.filter_sublist (l := l) (p := notPl)))
              have HVB := hid (sgsB_sub (unhid HVO) (List.filter_sublist (l := l) (p := notWr)))
              have HOS := hid ((unhid HS).below hbw)
              have HSA := hid (fun s (h : s ∈ l.filter notPl) => (unhid HOS).all s (List.mem_filter.1 h).1)
              have HSB := hid (fun s (h : s ∈ l.filter notWr) => (unhid HOS).all s (List.mem_filter.1 h).1)
              have HLnA := hid (Nat.le_trans (List.length_filter_le notPl l) hl100)
              have HLnB := hid (Nat.le_trans (List.length_filter_le notWr l) hl100)
              have HHW := hid (fun (R R2 : List Mt) (h : IsRow n hour dir (l.filter notPl) R) (h2 : IsRow n hour dir (l.filter notWr) R2) => hold_warnings (js := js) (topic := topic) (k := metreI n dir mm) h h2 (unhid HND))
              generalize hlA : l.filter notPl = LA at *
              generalize hlB : l.filter notWr = LB at *
              clear hlA hlB
              obtain ⟨Aa, ca, ha, hra, -⟩ := own_slice (unhid HI).owna
              obtain ⟨Ab, cb, hb', hrb, -⟩ := own_slice (unhid HI).ownb
              subst ha hb'
              have SA := hid (show SgsOk wr Aa LA from ⟨by have := unhid HLnA; omega, hra, unhid HSA⟩)
              have SB := hid (show SgsOk wr Ab LB from ⟨by have := unhid HLnB; omega, hrb, unhid HSB⟩)
              have HLr := hid ((unhid HL).below hbw)
              clear hra hrb HSA HSB HLnA HLnB HI
              have hb0 := Below.refl wr.heap.size wr
              obtain ⟨wl, rfl⟩ : ∃ wl : World, wl = wr := ⟨_, rfl⟩
              have HBL := hid hbw
              clear hbw hbel HAr
              go_wp2_with fail
              refine (holds_calls n A js c Aa LA ca hour dir topic mm _ ((unhid HLr).below hb0) ((unhid SA).below hb0) il).mono ?_
              rintro e w5 ⟨v5, rfl, hz, hnz, hbn⟩
              rw [unhid HZ LA (unhid HVA)]
              obtain ⟨R5, hrow5, hv5⟩ := hz (unhid HZ LA (unhid HVA))
              have HR5 := hid hrow5
              have HV5 := hid hv5
              have hb5 : Below wl.heap.size wl w5 := hb0.trans (hbn.mono hb0.size)
              clear hz hnz hbn hrow5 hv5 e0 e1 e2 e3 e4 e5 e6 e7
              obtain ⟨e0, e1, e2, e3, e4, e5, e6, e7⟩ := (HA.below ((unhid HBL).trans (hb5.mono (unhid HBL).size))).cells
              go_wp2_with fail
              refine (holds_calls n A js c Ab LB cb hour dir topic mm _ ((unhid HLr).below hb5) ((unhid SB).below hb5) il).mono ?_
              rintro e w6 ⟨v6, rfl, hz, hnz, hbn⟩
              rw [unhid HZ LB (unhid HVB)]
              obtain ⟨R6, hrow6, hv6⟩ := hz (unhid HZ LB (unhid HVB))
              have HR6 := hid hrow6
              have HV6 := hid hv6
              have hb6 : Below wl.heap.size wl w6 := hb5.trans (hbn.mono hb5.size)
              clear hz hnz hbn hrow6 hv6 e0 e1 e2 e3 e4 e5 e6 e7
              obtain ⟨e0, e1, e2, e3, e4, e5, e6, e7⟩ := (HA.below ((unhid HBL).trans (hb6.mono (unhid HBL).size))).cells
              have E6 : v6 = v5 := by
                rw [unhid HV6, unhid HV5, unhid HHW _ _ (unhid HR5) (unhid HR6)]
              subst E6
              have t3 : (v6 == v6) = true := by simp
              go_wp2_with fail
              refine (first_calls _).mono ?_
              rintro e w7 ⟨rfl, hb7⟩
              go_wp2_with fail
              go_ret
              have hW := unhid HBW
              have hf := (unhid HBL).trans (hb6.mono (unhid HBL).size)
              have hf2 := hf.trans (hb7.mono hf.size)
              exact ⟨rfl, by rw [hBB]; exact hW.trans (hf2.mono (by rw [← hBB]; exact (hBB ▸ hW).size))⟩
  · rw [Bool.not_eq_true] at hrt
    rw [hrt]
    clear hrt
    go_wp2_with fail
    refine (first_calls _).mono ?_
    rintro e w2 ⟨rfl, hb2⟩
    go_wp2_with fail
    go_ret
    exact ⟨rfl, by rw [hBB]; exact (unhid HBW).trans (hb2.mono (by have := (unhid HBW).size; have := HA.lt; omega))⟩

end Go.Proofs.Ytmpngoejnmlmbaa
