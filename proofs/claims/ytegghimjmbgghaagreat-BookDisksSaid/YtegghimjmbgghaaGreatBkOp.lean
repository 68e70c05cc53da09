/-
  Open of the program.
-/
import Derived.Test.YtegghimjmbgghaaGreatBkEs
import Derived.Test.YtegghimjmbgghaaGreatBkFi
set_option linter.unusedSimpArgs false
set_option linter.unusedVariables false
namespace Go.Proofs.YtegghimjmbgghaaGreat
open Go.RowKit Go.Shelf

def openD (d : Dk) : Dk := if d.dn then d else if (scanP d.bs).1 < d.bs.length then cutD d ((scanP d.bs).1 : Nat) else syncD d
def openE (d : Dk) : Int := if d.dn then 92 else if (scanP d.bs).1 < d.bs.length then cutE d ((scanP d.bs).1 : Nat) else downE d
/-- What Open returns. -/
def OpenRes (w : World) (B : Nat) (d : Dk) (e : Ending) (w' : World) : Prop :=
  (openE d ≠ 0 ∧ e = .returned (.tuple #[.pointer none, .int .i64 (openE d)])) ∨
  (openE d = 0 ∧ ∃ Bl lv M, e = .returned (.tuple #[.pointer (some ⟨Bl, 0, none⟩), .int .i64 0]) ∧ w.heap.size ≤ Bl ∧ LoAt w' (Bl + 1) w.heap.size Bl B d.lf false lv M ∧ ents M = (scanP d.bs).2)
def OpenPost (w : World) (base B : Nat) (v : Value) (d : Dk) (e : Ending) (w' : World) : Prop :=
  ∃ v', DkAt w' base B v' (openD d) ∧ w.grownBy w' (some B) ∧ v'.ownBlock = v.ownBlock ∧ OpenRes w B d e w'
/-- How far Open has come. -/
structure OpI (w0 : World) (B Bl : Nat) (A : Option Addr) (c : Nat) (d : Dk) (lv : Value) (M : List Ent) (w : World) : Prop where
  b : Below w0.heap.size w0 w
  ob : w.ownsRow w0.heap.size 5 1 (.slice A d.bs.length c) d.bs.length (bys d.bs)
  lo : LoAt w (Bl + 1) w0.heap.size Bl B d.lf false lv M
  hl : w0.heap.size ≤ Bl
section
variable {w0 w w' : World} {B Bl : Nat} {A : Option Addr} {c : Nat} {d : Dk} {lv : Value} {M : List Ent}
theorem OpI.below (h : OpI w0 B Bl A c d lv M w) (hb : Below w.heap.size w w') : OpI w0 B Bl A c d lv M w' := ⟨h.b.trans (hb.mono h.b.size), own_below h.ob hb, h.lo.below hb, h.hl⟩
/-- An entry more. -/
theorem OpI.push {v' : Value} {e : Ent} {tmp : Obj} {w1 : World} (h : OpI w0 B Bl A c d lv M w) (he : w.ownsRow w0.heap.size 5 1 (enV e) e.l.length (bys e.l)) (hown : w1.ownsRow (Bl + 1) 52 1 v' (M.length + 1) (ens M ++ [enV e])) (hg : (w.alloc tmp).grownBy w1 lv.ownBlock) :
    OpI w0 B Bl A c d v' (M ++ [e]) (w1.setCell ⟨Bl, 3, none⟩ v') := by
  have hbt := below_alloc w tmp
  have h2 := h.below hbt
  have hE := h.lo.e.push he hown hg
  have hBl : w1.heap[Bl]? = some (.cells #[.pointer (some ⟨B, 0, none⟩), .int .i64 d.lf, .bool false, lv] 100 (0, 0)) :=
    (hg.block Bl (Array.getElem?_eq_some_iff.1 h2.lo.b).1 (own_ne_blk h2.lo.e.own h2.lo.b (by decide))).trans h2.lo.b
  have hb1 := heap_setCell_same w1 Bl 3 _ _ v' hBl
  have hg1 := setCell_grown w1 hBl (i := 3) v'
  have hob := h2.ob.kept hg (own_apart h2.lo.e.own h2.ob (by decide))
  refine ⟨?_, own_kept hob hg1 (own_ne_blk hob hBl (by decide)), ⟨hb1, hE.other hBl (by decide) (by decide) hg1⟩, h.hl⟩
  have hx := h2.b.grown hg h2.b.size (fun j e => by have := (own_block_lt h2.lo.e.own e).1; have := h.hl; omega)
  exact hx.grown hg1 hx.size (fun j e => by cases e; exact h.hl)
end

set_option maxHeartbeats 8000000 in
set_option maxRecDepth 100000 in
theorem kopen_calls {base B : Nat} {v : Value} {d : Dk} (w : World) (h : DkAt w base B v d) (hn : d.bs.length ≤ 1000000) :
    Calls Tryz.prog 32 #[.pointer (some ⟨B, 0, none⟩)] w fun e w' => OpenPost w base B v d e w' := by
  obtain ⟨i0, hi, hz0, hz1, hz2⟩ := info_parts info_bytes
  have HK := hid h
  have HN := hid hn
  clear h hn
  go_enter Tryz.func32, Tryz.ntmps32
  go_wp2_with fail
  refine (kread_calls w (unhid HK) (unhid HN)).mono ?_
  rintro e w1 (⟨hdn, rfl, hb⟩ | ⟨hdn, A, c, rfl, hown, hb⟩)
  · have HP := hid (show OpenPost w base B v d (.returned (.tuple #[.pointer none, .int .i64 92])) w1 from ⟨v, by rw [openD, if_pos hdn]; exact (unhid HK).below hb, grown_of_below hb _, rfl, .inl ⟨by rw [openE, if_pos hdn]; omega, by rw [openE, if_pos hdn]⟩⟩)
    clear hdn hb
    go_wp2_with fail
    go_ret2
    exact unhid HP
  · have HDF := hid hdn
    have HK1 := hid ((unhid HK).below hb)
    have HB1 := hid hb
    have HO1 := hid hown
    clear hdn hb hown
    have c5 := (unhid HK1).cells.2.2.2.2.2
    go_upto_region 6 with (fail)
    have hba := below_alloc w1 (.cells #[.pointer (some ⟨B, 0, none⟩), .int .i64 d.lf, .bool false, .slice none 0 0] 100)
    have hna := heap_alloc_new w1 (.cells #[.pointer (some ⟨B, 0, none⟩), .int .i64 d.lf, .bool false, .slice none 0 0] 100)
    have HI := hid (⟨(unhid HB1).trans (hba.mono (unhid HB1).size), own_below (unhid HO1) hba, ⟨hna, EnsAt.nil _ _ _⟩, (unhid HB1).size⟩ : OpI w B w1.heap.size A c d (.slice none 0 0) [] _)
    change Code.wp _ _ _ _ (w1.alloc (.cells #[.pointer (some ⟨B, 0, none⟩), .int .i64 d.lf, .bool false, .slice none 0 0] 100))
    obtain ⟨Bl, hBl⟩ : ∃ Bl, Bl = w1.heap.size := ⟨_, rfl⟩
    rw [← hBl] at HI ⊢
    clear hba hna hBl c5 HB1 HO1 HK1
    generalize w1.alloc (.cells #[.pointer (some ⟨B, 0, none⟩), .int .i64 d.lf, .bool false, .slice none 0 0] 100) = W2 at *
    go_loopw [7] (fun av wr => ∃ (k a : Nat) (lv : Value) (M : List Ent), av = .int .i64 (a : Int) ∧ a = (scanK d.bs k).1 ∧ OpI w B Bl A c d lv M wr ∧ ents M = (scanK d.bs k).2 ∧ M.length ≤ a) (fun av _ => d.bs.length - (intOf av).toNat)
    case atStart => exact ⟨0, 0, _, [], rfl, rfl, unhid HI, rfl, Nat.le_refl _⟩
    case round =>
      clear HI
      obtain ⟨k, a, lv, M, rfl, ha, hi1, hM, hMa⟩ := hrel
      have HA := hid ha
      have HI := hid hi1
      have HM := hid hM
      have HMA := hid hMa
      have hal : a ≤ d.bs.length := by rw [ha]; exact scanK_le _ _
      have HAL := hid hal
      obtain ⟨A', c', hv', hrd, hcc, -, -⟩ := own_slice2 (unhid HI).ob
      injection hv' with q1 q2 q3
      subst q1 q3
      have HRD := hid (rd_cut (a := a) hrd hcc)
      have HCC := hid hcc
      have hs1 := slice_l A d.bs.length c a hal hcc (a : Int) rfl
      have HDL := hid (show (d.bs.drop a).length = d.bs.length - a from List.length_drop)
      have HC := hid (by
        have h := pfirst_calls (d.bs.drop a) (cutA A c a) (c - a) wr (unhid HRD) (by rw [unhid HDL]; have := unhid HN; omega) (by rw [unhid HDL]; have := unhid HCC; omega)
        rw [unhid HDL] at h
        exact h : Calls Tryz.prog 73 #[.slice (cutA A c a) (d.bs.length - a) (c - a)] wr fun e w' => FiPost wr (d.bs.drop a) e w')
      clear ha hi1 hM hMa hal hrd hcc
      go_wp2_with fail
      refine (unhid HC).mono ?_
      rintro e w3 (⟨hF, rfl, hb⟩ | ⟨hF, A3, c3, rfl, hown, hb⟩)
      · have HEND := hid (scanK_end (l := d.bs) (k := k) (by rw [← unhid HA]; exact hF))
        have HI3 := hid ((unhid HI).below hb)
        have HK3 := hid ((unhid HK).below (unhid HI3).b)
        have HSA := hid (show a = (scanP d.bs).1 ∧ ents M = (scanP d.bs).2 from by rw [← unhid HEND]; exact ⟨unhid HA, unhid HM⟩)
        clear hF hb hs1 HC
        by_cases hlt : a < d.bs.length
        · have hlti : (a : Int) < (d.bs.length : Int) := by omega
          have HOD := hid (show openD d = cutD d (a : Int) ∧ openE d = cutE d (a : Int) from by
            have h1 : (scanP d.bs).1 < d.bs.length := by rw [← (unhid HSA).1]; exact hlt
            unfold openD openE
            rw [if_neg (by rw [unhid HDF]; simp), if_pos h1, if_neg (by rw [unhid HDF]; simp), if_pos h1, ← (unhid HSA).1]
            exact ⟨rfl, rfl⟩)
          clear hlt
          go_wp2_with fail
          refine (kcut_calls (a : Int) w3 (unhid HK3) (unhid HN)).mono ?_
          rintro e w4 ⟨rfl, v', hk4, hg4, hv4⟩
          have HLO := hid (⟨(hg4.block Bl (Array.getElem?_eq_some_iff.1 (unhid HI3).lo.b).1 (fun e => by have := Option.some.inj e; have := (unhid HK).lt; have := (unhid HI3).hl; omega)).trans (unhid HI3).lo.b, (unhid HI3).lo.e.other (unhid HK3).b (by decide) (by decide) hg4⟩ : LoAt w4 (Bl + 1) w.heap.size Bl B d.lf false lv M)
          have HP := hid (show ∀ e, OpenRes w B d e w4 → OpenPost w base B v d e w4 from fun e h => ⟨v', by rw [(unhid HOD).1]; exact hk4, grown_then (unhid HI3).b hg4, hv4, h⟩)
          clear hk4 hg4 hv4
          by_cases h0 : cutE d (a : Int) = 0
          · have HR := hid (show OpenRes w B d (.returned (.tuple #[.pointer (some ⟨Bl, 0, none⟩), .int .i64 0])) w4 from .inr ⟨by rw [(unhid HOD).2, h0], Bl, lv, M, rfl, (unhid HI3).hl, unhid HLO, (unhid HSA).2⟩)
            rw [h0]
            clear h0
            go_wp2_with fail
            go_ret2
            exact unhid HP _ (unhid HR)
          · obtain ⟨en, hen⟩ : ∃ en, en = cutE d (a : Int) := ⟨_, rfl⟩
            rw [← hen] at h0 ⊢
            have HR := hid (show OpenRes w B d (.returned (.tuple #[.pointer none, .int .i64 en])) w4 from .inl ⟨by rw [(unhid HOD).2, ← hen]; exact h0, by rw [(unhid HOD).2, ← hen]⟩)
            have hne : (en != 0) = true := bne_iff_ne.2 h0
            clear hen
            go_wp2_with fail
            go_ret2
            exact unhid HP _ (unhid HR)
        · have hlti : ¬ (a : Int) < (d.bs.length : Int) := by omega
          have HOD := hid (show openD d = syncD d ∧ openE d = downE d from by
            have h1 : ¬ (scanP d.bs).1 < d.bs.length := by rw [← (unhid HSA).1]; exact hlt
            unfold openD openE
            rw [if_neg (by rw [unhid HDF]; simp), if_neg h1, if_neg (by rw [unhid HDF]; simp), if_neg h1]
            exact ⟨rfl, rfl⟩)
          clear hlt
          go_wp2_with fail
          refine (ksync_calls w3 (unhid HK3) (unhid HN)).mono ?_
          rintro e w4 ⟨rfl, hk4, hg4⟩
          have HLO := hid (⟨(hg4.block Bl (Array.getElem?_eq_some_iff.1 (unhid HI3).lo.b).1 (fun e => by have := Option.some.inj e; have := (unhid HK).lt; have := (unhid HI3).hl; omega)).trans (unhid HI3).lo.b, (unhid HI3).lo.e.other (unhid HK3).b (by decide) (by decide) hg4⟩ : LoAt w4 (Bl + 1) w.heap.size Bl B d.lf false lv M)
          have HP := hid (show ∀ e, OpenRes w B d e w4 → OpenPost w base B v d e w4 from fun e h => ⟨v, by rw [(unhid HOD).1]; exact hk4, grown_then (unhid HI3).b hg4, rfl, h⟩)
          clear hk4 hg4
          by_cases h0 : downE d = 0
          · have HR := hid (show OpenRes w B d (.returned (.tuple #[.pointer (some ⟨Bl, 0, none⟩), .int .i64 0])) w4 from .inr ⟨by rw [(unhid HOD).2, h0], Bl, lv, M, rfl, (unhid HI3).hl, unhid HLO, (unhid HSA).2⟩)
            rw [h0]
            clear h0
            go_wp2_with fail
            go_ret2
            exact unhid HP _ (unhid HR)
          · obtain ⟨en, hen⟩ : ∃ en, en = downE d := ⟨_, rfl⟩
            rw [← hen] at h0 ⊢
            have HR := hid (show OpenRes w B d (.returned (.tuple #[.pointer none, .int .i64 en])) w4 from .inl ⟨by rw [(unhid HOD).2, ← hen]; exact h0, by rw [(unhid HOD).2, ← hen]⟩)
            have hne : (en != 0) = true := bne_iff_ne.2 h0
            clear hen
            go_wp2_with fail
            go_ret2
            exact unhid HP _ (unhid HR)
      · have HF := hid hF
        have HNX := hid (scanK_yes (l := d.bs) (k := k) (by rw [← unhid HA]; exact hF))
        rw [← unhid HA] at HNX
        have HI3 := hid ((unhid HI).below hb)
        have HO3 := hid (own_base hown (unhid HI).b.size)
        have HLE := hid (show lenE (d.bs.drop a) + 7 ≤ d.bs.length - a from by rw [← unhid HDL]; exact hF.2.2.2.1)
        obtain ⟨n, hn⟩ : ∃ n, n = lenE (d.bs.drop a) + 7 := ⟨_, rfl⟩
        have HNE := hid (show 7 ≤ n ∧ a + n ≤ d.bs.length ∧ n = lenE (d.bs.drop a) + 7 from by have := unhid HLE; have := unhid HAL; omega)
        rw [← hn]
        have hn0 : ((n : Int) == 0) = false := beq_eq_false_iff_ne.2 (by have := unhid HNE; omega)
        clear hF hb hown hs1 HC hn
        go_upto_region 8 with (fail)
        have hy := (unhid HI3).lo.e.own
        have hlc : M.length ≤ 1000000 := by have := unhid HMA; have := unhid HAL; have := unhid HN; omega
        have hsz : Bl + 1 ≤ w3.heap.size := (Array.getElem?_eq_some_iff.1 (unhid HI3).lo.b).1
        have k3 := cell_of_row _ Bl 3 _ _ _ (unhid HI3).lo.b
        simp only [List.getElem?_toArray, List.getElem?_cons_zero, List.getElem?_cons_succ] at k3
        have HBL := hid (unhid HI3).lo.b
        go_upto_region 9 with (at_builtin; refine wpList_append_own _ rfl _ _ 70 rfl (Bl + 1) 52 i0 (.slice none 0 0) 1 24 Tryz.underlying70 hi hz0 hz1 hz2 rfl (by decide) _ _ _ rfl (hy.alloc _) ⟨w3.heap.size, 0, none⟩ 1 1 [.slice A3 (entE (d.bs.drop a)).length c3] rfl rfl (en_news w3 A3 (entE (d.bs.drop a)).length c3) (by simp [Value.oneCell']) (by unfold maxLen; omega) (by omega) (by simp; omega) ?_; intro v' w6 hown' hgrow hnil; have hB6 : w6.heap[Bl]? = some (.cells #[.pointer (some ⟨B, 0, none⟩), .int .i64 d.lf, .bool false, lv] 100 (0, 0)) := (hgrow.block Bl (by simp; omega) (own_ne_blk hy (unhid HBL) (by decide))).trans (((below_alloc w3 _).block Bl (by omega)).trans (unhid HBL)); have k6 := cell_of_row _ Bl 3 _ _ _ hB6; have fz6 := frozen_of_row _ Bl 3 _ _ hB6; obtain ⟨A6, cc6, hv6, -, -⟩ := own_slice hown'; subst hv6)
        have HI6 := hid ((unhid HI3).push (e := ⟨A3, c3, entE (d.bs.drop a)⟩) (unhid HO3) hown' hgrow)
        clear hy hlc hsz hown' hgrow hnil k3 hB6 k6 fz6
        change Code.wp _ _ _ _ (w6.setCell ⟨Bl, 3, none⟩ (.slice A6 (M.length + 1) cc6))
        generalize w6.setCell ⟨Bl, 3, none⟩ (.slice A6 (M.length + 1) cc6) = w7 at *
        have HAN := hid (show wrap64 ((a : Int) + (n : Int)) = ((a + n : Nat) : Int) from by have := unhid HNE; have := unhid HN; unfold wrap64; omega)
        have HEM := hid (show ents (M ++ [⟨A3, c3, entE (d.bs.drop a)⟩]) = (scanK d.bs (k + 1)).2 from by rw [unhid HNX, ← unhid HM]; simp [ents])
        have HAE := hid (show a + n = (scanK d.bs (k + 1)).1 from by rw [unhid HNX, (unhid HNE).2.2])
        have HLM := hid (show (M ++ [(⟨A3, c3, entE (d.bs.drop a)⟩ : Ent)]).length ≤ a + n from by rw [List.length_append, List.length_singleton]; have := unhid HMA; have := unhid HNE; omega)
        have hb1 : (a : Int) + (n : Int) ≤ 1000000 := by have := unhid HNE; have := unhid HN; omega
        go_wp2_with fail
        go_roundw
        case rel => exact ⟨k + 1, a + n, _, _, by first | go_num | rw [unhid HAN], unhid HAE, unhid HI6, unhid HEM, unhid HLM⟩
        case measure =>
          have h1 := unhid HNE
          first | (simp [intOf]; done) | (simp [intOf]; omega) | (rw [unhid HAN]; simp [intOf]; omega)

end Go.Proofs.YtegghimjmbgghaaGreat
